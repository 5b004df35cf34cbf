/-
  Proved: mailboatlaw13.BundleSizes returns true for every input, and leaves its arguments as they were. No condition.
-/
import Derived.Test.YthedoidpapodgaaRows
import Derived.Test.YthedoidpapodgaaJa
import Derived.Test.YthedoidpapodgaaJn
import Derived.Test.YthedoidpapodgaaTk
import Derived.Test.YthedoidpapodgaaTi
import Derived.Test.YthedoidpapodgaaTg
import Derived.Test.YthedoidpapodgaaTd
import Derived.Test.YthedoidpapodgaaTl
import Derived.Test.YthedoidpapodgaaTm
import Derived.Test.YthedoidpapodgaaJm
set_option linter.unusedVariables false
set_option linter.unusedSimpArgs false
namespace Go.Proofs.Ythedoidpapodgaa.bundleSizes
open Go Go.ChangeShapes Go.WideShapes Go.ChangeAt Go.RowKit Go.Joins Go.Proofs.Ythedoidpapodgaa
attribute [local go_sem] B_getElem B_size B_app B_extract B_get B_toList

theorem own : ownKnob Try.prog.godebug = none := by kernel_rfl

attribute [local go_sem] bunC idV
attribute [local go_sem ↓] eqId eqEnd
set_option maxRecDepth 100000 in
set_option maxHeartbeats 4000000 in
theorem walk (b : Bun) (u : Value) (more : List UInt8) (w : World) (hr : RBlks w w.heap.size u b.blocks) (hf : Fits b) (hs : more.length ≤ maxLen) :
    Calls Try.prog 8 #[.agg (bunC b u).toArray, .string (B more)] w (Says w) := by
  obtain ⟨ua, uc, rfl, _⟩ := id hr
  have HR := Lib.hid hr
  have HF := Lib.hid hf
  clear hr hf
  unfold maxLen at hs
  have hs2 : more.length ≤ 9223372036854775807 := by omega
  by_cases h0 : more.length = 0
  · have h0' : ((more.length : Int) == 0) = true := beq_iff_eq.2 (by omega)
    have h0a : (more.length == 0) = true := beq_iff_eq.2 h0
    obtain rfl : more = [] := List.length_eq_zero_iff.1 h0
    clear h0 h0' h0a
    go_enter Try.func8, Try.ntmps8
    simp only [bunC]
    go_wp2_with fail
    refine (bgreat_any b _ _ (HR.out.below' (by repeat' (first | (with_reducible refine bset ?_ ?_) | (with_reducible exact Below.refl _ _) | (with_reducible assumption) | (with_reducible refine bdrewN ?_ _) | (with_reducible refine bdrew ?_) | (with_reducible refine balloc0 ?_) | (with_reducible refine balloc ?_ ?_) | (with_reducible apply btrans0; rotate_left; with_reducible assumption) | (with_reducible apply btrans; rotate_left; with_reducible assumption) | exact Below.refl _ _ | assumption | (apply btrans0; rotate_left; assumption) | (apply btrans; rotate_left; assumption) | (simp; done) | omega | (simp; omega)))) HF.out).mono ?_
    rintro e w1 ⟨g, rfl, hb1⟩
    obtain ⟨k1, f1⟩ := bcell hb1
    have z1_0 : w.heap.size < w1.heap.size := by have := hb1.size; (try simp at this); omega
    cases g
    case true =>
      go_wp2_with fail
      refine (awake_any _).mono ?_
      rintro e w99 ⟨rfl, hb99⟩
      go_wp2
      go_ret
      exact ⟨rfl, (by repeat' (first | (with_reducible refine bset ?_ ?_) | (with_reducible exact Below.refl _ _) | (with_reducible assumption) | (with_reducible refine bdrewN ?_ _) | (with_reducible refine bdrew ?_) | (with_reducible refine balloc0 ?_) | (with_reducible refine balloc ?_ ?_) | (with_reducible apply btrans0; rotate_left; with_reducible assumption) | (with_reducible apply btrans; rotate_left; with_reducible assumption) | exact Below.refl _ _ | assumption | (apply btrans0; rotate_left; assumption) | (apply btrans; rotate_left; assumption) | (simp; done) | omega | (simp; omega)))⟩
    go_wp2_with fail
    refine (awake_any _).mono ?_
    rintro e w99 ⟨rfl, hb99⟩
    go_wp2
    go_ret
    exact ⟨rfl, (by repeat' (first | (with_reducible refine bset ?_ ?_) | (with_reducible exact Below.refl _ _) | (with_reducible assumption) | (with_reducible refine bdrewN ?_ _) | (with_reducible refine bdrew ?_) | (with_reducible refine balloc0 ?_) | (with_reducible refine balloc ?_ ?_) | (with_reducible apply btrans0; rotate_left; with_reducible assumption) | (with_reducible apply btrans; rotate_left; with_reducible assumption) | exact Below.refl _ _ | assumption | (apply btrans0; rotate_left; assumption) | (apply btrans; rotate_left; assumption) | (simp; done) | omega | (simp; omega)))⟩
  have h0' : ((more.length : Int) == 0) = false := beq_eq_false_iff_ne.2 (by omega)
  have h0a : ¬ more = [] := fun h => h0 (by rw [h]; rfl)
  by_cases h3 : 50 < more.length
  · have h3' : (50 : Int) < (more.length : Int) := by omega
    clear h0
    go_enter Try.func8, Try.ntmps8
    simp only [bunC]
    go_wp2_with fail
    refine (bgreat_any b _ _ (HR.out.below' (by repeat' (first | (with_reducible refine bset ?_ ?_) | (with_reducible exact Below.refl _ _) | (with_reducible assumption) | (with_reducible refine bdrewN ?_ _) | (with_reducible refine bdrew ?_) | (with_reducible refine balloc0 ?_) | (with_reducible refine balloc ?_ ?_) | (with_reducible apply btrans0; rotate_left; with_reducible assumption) | (with_reducible apply btrans; rotate_left; with_reducible assumption) | exact Below.refl _ _ | assumption | (apply btrans0; rotate_left; assumption) | (apply btrans; rotate_left; assumption) | (simp; done) | omega | (simp; omega)))) HF.out).mono ?_
    rintro e w1 ⟨g, rfl, hb1⟩
    obtain ⟨k1, f1⟩ := bcell hb1
    have z1_0 : w.heap.size < w1.heap.size := by have := hb1.size; (try simp at this); omega
    cases g
    case true =>
      go_wp2_with fail
      refine (awake_any _).mono ?_
      rintro e w99 ⟨rfl, hb99⟩
      go_wp2
      go_ret
      exact ⟨rfl, (by repeat' (first | (with_reducible refine bset ?_ ?_) | (with_reducible exact Below.refl _ _) | (with_reducible assumption) | (with_reducible refine bdrewN ?_ _) | (with_reducible refine bdrew ?_) | (with_reducible refine balloc0 ?_) | (with_reducible refine balloc ?_ ?_) | (with_reducible apply btrans0; rotate_left; with_reducible assumption) | (with_reducible apply btrans; rotate_left; with_reducible assumption) | exact Below.refl _ _ | assumption | (apply btrans0; rotate_left; assumption) | (apply btrans; rotate_left; assumption) | (simp; done) | omega | (simp; omega)))⟩
    go_wp2_with fail
    refine (awake_any _).mono ?_
    rintro e w99 ⟨rfl, hb99⟩
    go_wp2
    go_ret
    exact ⟨rfl, (by repeat' (first | (with_reducible refine bset ?_ ?_) | (with_reducible exact Below.refl _ _) | (with_reducible assumption) | (with_reducible refine bdrewN ?_ _) | (with_reducible refine bdrew ?_) | (with_reducible refine balloc0 ?_) | (with_reducible refine balloc ?_ ?_) | (with_reducible apply btrans0; rotate_left; with_reducible assumption) | (with_reducible apply btrans; rotate_left; with_reducible assumption) | exact Below.refl _ _ | assumption | (apply btrans0; rotate_left; assumption) | (apply btrans; rotate_left; assumption) | (simp; done) | omega | (simp; omega)))⟩
  have h3' : ¬ (50 : Int) < (more.length : Int) := by omega
  have h3a : ¬ 50 < more.length := h3
  have h50 : more.length ≤ 50 := by omega
  clear h3
  by_cases hz : chkE b = 0
  case neg =>
    have hR : sizS b = 0 := siz_bad hz
    have HRR := Lib.hid hR
    obtain ⟨C, hC⟩ : ∃ q, chkE b = q := ⟨_, rfl⟩
    rw [hC] at hz
    have HC := Lib.hid hC
    have hz' : (C != 0) = true := by rw [bne_iff_ne]; exact hz
    clear hR hC hz h0
    go_enter Try.func8, Try.ntmps8
    simp only [bunC]
    go_wp2_with fail
    refine (bgreat_any b _ _ (HR.out.below' (by repeat' (first | (with_reducible refine bset ?_ ?_) | (with_reducible exact Below.refl _ _) | (with_reducible assumption) | (with_reducible refine bdrewN ?_ _) | (with_reducible refine bdrew ?_) | (with_reducible refine balloc0 ?_) | (with_reducible refine balloc ?_ ?_) | (with_reducible apply btrans0; rotate_left; with_reducible assumption) | (with_reducible apply btrans; rotate_left; with_reducible assumption) | exact Below.refl _ _ | assumption | (apply btrans0; rotate_left; assumption) | (apply btrans; rotate_left; assumption) | (simp; done) | omega | (simp; omega)))) HF.out).mono ?_
    rintro e w1 ⟨g, rfl, hb1⟩
    obtain ⟨k1, f1⟩ := bcell hb1
    have z1_0 : w.heap.size < w1.heap.size := by have := hb1.size; (try simp at this); omega
    cases g
    case true =>
      go_wp2_with fail
      refine (awake_any _).mono ?_
      rintro e w99 ⟨rfl, hb99⟩
      go_wp2
      go_ret
      exact ⟨rfl, (by repeat' (first | (with_reducible refine bset ?_ ?_) | (with_reducible exact Below.refl _ _) | (with_reducible assumption) | (with_reducible refine bdrewN ?_ _) | (with_reducible refine bdrew ?_) | (with_reducible refine balloc0 ?_) | (with_reducible refine balloc ?_ ?_) | (with_reducible apply btrans0; rotate_left; with_reducible assumption) | (with_reducible apply btrans; rotate_left; with_reducible assumption) | exact Below.refl _ _ | assumption | (apply btrans0; rotate_left; assumption) | (apply btrans; rotate_left; assumption) | (simp; done) | omega | (simp; omega)))⟩
    go_wp2_with fail
    refine (size_any b _ _ (HR.out.below' (by repeat' (first | (with_reducible refine bset ?_ ?_) | (with_reducible exact Below.refl _ _) | (with_reducible assumption) | (with_reducible refine bdrewN ?_ _) | (with_reducible refine bdrew ?_) | (with_reducible refine balloc0 ?_) | (with_reducible refine balloc ?_ ?_) | (with_reducible apply btrans0; rotate_left; with_reducible assumption) | (with_reducible apply btrans; rotate_left; with_reducible assumption) | exact Below.refl _ _ | assumption | (apply btrans0; rotate_left; assumption) | (apply btrans; rotate_left; assumption) | (simp; done) | omega | (simp; omega)))) HF.out).mono ?_
    rw [HRR.out, HC.out]
    rintro e w2 ⟨rfl, hb2⟩
    obtain ⟨k2, f2⟩ := bcell hb2
    have z2_0 : w.heap.size < w2.heap.size := by have := hb2.size; (try simp at this); omega
    go_wp2_with fail
    refine (awake_any _).mono ?_
    rintro e w99 ⟨rfl, hb99⟩
    go_wp2
    go_ret
    exact ⟨rfl, (by repeat' (first | (with_reducible refine bset ?_ ?_) | (with_reducible exact Below.refl _ _) | (with_reducible assumption) | (with_reducible refine bdrewN ?_ _) | (with_reducible refine bdrew ?_) | (with_reducible refine balloc0 ?_) | (with_reducible refine balloc ?_ ?_) | (with_reducible apply btrans0; rotate_left; with_reducible assumption) | (with_reducible apply btrans; rotate_left; with_reducible assumption) | exact Below.refl _ _ | assumption | (apply btrans0; rotate_left; assumption) | (apply btrans; rotate_left; assumption) | (simp; done) | omega | (simp; omega)))⟩
  obtain ⟨b0, b1, b2, b3, b4, b5, b6, b7, b8, b9, bl, pl⟩ := b
  cases bl with
  | nil =>
    have hN1 := siz_pay hz
    have hN2 := (siz_top ⟨b0, b1, b2, b3, b4, b5, b6, b7, b8, b9, [], pl⟩).2
    have hpl : pl.length ≤ 4096 := (payE_zero (chkE_zero hz).2.2.2.1).1
    obtain ⟨N, hN⟩ : ∃ q, sizS ⟨b0, b1, b2, b3, b4, b5, b6, b7, b8, b9, [], pl⟩ = q := ⟨_, rfl⟩
    obtain ⟨M, hM⟩ : ∃ q, sizS ⟨b0, b1, b2, b3, b4, b5, b6, b7, b8, b9, [], pl ++ more⟩ = q := ⟨_, rfl⟩
    obtain ⟨F, hF⟩ : ∃ q, chkE ⟨b0, b1, b2, b3, b4, b5, b6, b7, b8, b9, [], pl ++ more⟩ = q := ⟨_, rfl⟩
    have hlt : F = 0 → N < M := fun h => by
      rw [← hN, ← hM]
      exact siz_longer (b := ⟨b0, b1, b2, b3, b4, b5, b6, b7, b8, b9, [], pl⟩) hz (by omega) (by rw [← h, ← hF])
    rw [hN] at hN1 hN2
    have hN1' : ¬ N ≤ (pl.length : Int) := by simp only at hN1; omega
    have hN2' : ¬ 65536 < N := by omega
    have hcat : ¬ 9223372036854775807 < pl.length + more.length := by omega
    have HFL : Hid (Fits ⟨b0, b1, b2, b3, b4, b5, b6, b7, b8, b9, [], pl ++ more⟩) := Lib.hid ⟨by show (pl ++ more).length ≤ maxLen; rw [List.length_append]; unfold maxLen; omega, HF.out.2⟩
    have HNN := Lib.hid hN
    have HM := Lib.hid hM
    have HFC := Lib.hid hF
    have HLT := Lib.hid hlt
    have HZ := Lib.hid hz
    clear hN hM hF hlt hz hN1 hN2
    go_enter Try.func8, Try.ntmps8
    simp only [bunC]
    go_wp2_with fail
    refine (bgreat_any ⟨b0, b1, b2, b3, b4, b5, b6, b7, b8, b9, [], pl⟩ _ _ (HR.out.below' (by repeat' (first | (with_reducible refine bset ?_ ?_) | (with_reducible exact Below.refl _ _) | (with_reducible assumption) | (with_reducible refine bdrewN ?_ _) | (with_reducible refine bdrew ?_) | (with_reducible refine balloc0 ?_) | (with_reducible refine balloc ?_ ?_) | (with_reducible apply btrans0; rotate_left; with_reducible assumption) | (with_reducible apply btrans; rotate_left; with_reducible assumption) | exact Below.refl _ _ | assumption | (apply btrans0; rotate_left; assumption) | (apply btrans; rotate_left; assumption) | (simp; done) | omega | (simp; omega)))) HF.out).mono ?_
    rintro e w1 ⟨g, rfl, hb1⟩
    obtain ⟨k1, f1⟩ := bcell hb1
    have z1_0 : w.heap.size < w1.heap.size := by have := hb1.size; (try simp at this); omega
    cases g
    case true =>
      go_wp2_with fail
      refine (awake_any _).mono ?_
      rintro e w99 ⟨rfl, hb99⟩
      go_wp2
      go_ret
      exact ⟨rfl, (by repeat' (first | (with_reducible refine bset ?_ ?_) | (with_reducible exact Below.refl _ _) | (with_reducible assumption) | (with_reducible refine bdrewN ?_ _) | (with_reducible refine bdrew ?_) | (with_reducible refine balloc0 ?_) | (with_reducible refine balloc ?_ ?_) | (with_reducible apply btrans0; rotate_left; with_reducible assumption) | (with_reducible apply btrans; rotate_left; with_reducible assumption) | exact Below.refl _ _ | assumption | (apply btrans0; rotate_left; assumption) | (apply btrans; rotate_left; assumption) | (simp; done) | omega | (simp; omega)))⟩
    go_wp2_with fail
    refine (size_any ⟨b0, b1, b2, b3, b4, b5, b6, b7, b8, b9, [], pl⟩ _ _ (HR.out.below' (by repeat' (first | (with_reducible refine bset ?_ ?_) | (with_reducible exact Below.refl _ _) | (with_reducible assumption) | (with_reducible refine bdrewN ?_ _) | (with_reducible refine bdrew ?_) | (with_reducible refine balloc0 ?_) | (with_reducible refine balloc ?_ ?_) | (with_reducible apply btrans0; rotate_left; with_reducible assumption) | (with_reducible apply btrans; rotate_left; with_reducible assumption) | exact Below.refl _ _ | assumption | (apply btrans0; rotate_left; assumption) | (apply btrans; rotate_left; assumption) | (simp; done) | omega | (simp; omega)))) HF.out).mono ?_
    rw [HNN.out, HZ.out]
    rintro e w2 ⟨rfl, hb2⟩
    obtain ⟨k2, f2⟩ := bcell hb2
    have z2_0 : w.heap.size < w2.heap.size := by have := hb2.size; (try simp at this); omega
    go_wp2
    refine wp_region_fork (fun V => Below w2.heap.size w2 V) [1, 1, 2, 2, 2, 3] [0, 1] 2 3 [3, 4, 5] [2, 4, 5] (by kernel_rfl) (by kernel_rfl) ?_ ?_
    case refine_1 => exact (by repeat' (first | (with_reducible refine bset ?_ ?_) | (with_reducible exact Below.refl _ _) | (with_reducible assumption) | (with_reducible refine bdrewN ?_ _) | (with_reducible refine bdrew ?_) | (with_reducible refine balloc0 ?_) | (with_reducible refine balloc ?_ ?_) | (with_reducible apply btrans0; rotate_left; with_reducible assumption) | (with_reducible apply btrans; rotate_left; with_reducible assumption) | exact Below.refl _ _ | assumption | (apply btrans0; rotate_left; assumption) | (apply btrans; rotate_left; assumption) | (simp; done) | omega | (simp; omega)))
    (iterate 2 (refine planR_held rfl (by rfl) (fun w1 hS => by (try (obtain ⟨_, _⟩ := bcell (hS rfl))); go_simp; rfl) ?_; simp only [Act.put, List.setIfInBounds_toArray, List.set_cons_zero, List.set_cons_succ]))
    refine ⟨?_, ?_⟩
    · (refine fork_op rfl (by rfl) (fun K hK => ?_); go_simp)
      (refine hK _ _ (by exact (by repeat' (first | (with_reducible refine bset ?_ ?_) | (with_reducible exact Below.refl _ _) | (with_reducible assumption) | (with_reducible refine bdrewN ?_ _) | (with_reducible refine bdrew ?_) | (with_reducible refine balloc0 ?_) | (with_reducible refine balloc ?_ ?_) | (with_reducible apply btrans0; rotate_left; with_reducible assumption) | (with_reducible apply btrans; rotate_left; with_reducible assumption) | exact Below.refl _ _ | assumption | (apply btrans0; rotate_left; assumption) | (apply btrans; rotate_left; assumption) | (simp; done) | omega | (simp; omega)))) ?_; clear hK K; (try simp only [Act.put, List.setIfInBounds_toArray, List.set_cons_zero, List.set_cons_succ]))
      (refine plan_keep rfl rfl (by rfl) (fun K hK => ?_); go_simp)
      (refine hK _ _ (by exact (by repeat' (first | (with_reducible refine bset ?_ ?_) | (with_reducible exact Below.refl _ _) | (with_reducible assumption) | (with_reducible refine bdrewN ?_ _) | (with_reducible refine bdrew ?_) | (with_reducible refine balloc0 ?_) | (with_reducible refine balloc ?_ ?_) | (with_reducible apply btrans0; rotate_left; with_reducible assumption) | (with_reducible apply btrans; rotate_left; with_reducible assumption) | exact Below.refl _ _ | assumption | (apply btrans0; rotate_left; assumption) | (apply btrans; rotate_left; assumption) | (simp; done) | omega | (simp; omega)))) ?_; clear hK K; (try simp only [Act.put, List.setIfInBounds_toArray, List.set_cons_zero, List.set_cons_succ]))
      (refine plan_keep rfl rfl (by rfl) (fun K hK => ?_); go_simp)
      (refine hK _ _ (by exact (by repeat' (first | (with_reducible refine bset ?_ ?_) | (with_reducible exact Below.refl _ _) | (with_reducible assumption) | (with_reducible refine bdrewN ?_ _) | (with_reducible refine bdrew ?_) | (with_reducible refine balloc0 ?_) | (with_reducible refine balloc ?_ ?_) | (with_reducible apply btrans0; rotate_left; with_reducible assumption) | (with_reducible apply btrans; rotate_left; with_reducible assumption) | exact Below.refl _ _ | assumption | (apply btrans0; rotate_left; assumption) | (apply btrans; rotate_left; assumption) | (simp; done) | omega | (simp; omega)))) ?_; clear hK K; (try simp only [Act.put, List.setIfInBounds_toArray, List.set_cons_zero, List.set_cons_succ]))
      (refine plan_late rfl rfl (by rfl) (fun K hK => ?_); go_simp)
      (refine hK _ _ ?_; clear hK K; (try simp only [Act.put, List.setIfInBounds_toArray, List.set_cons_zero, List.set_cons_succ]))
      refine plan_done ?_
      have q3 : w.heap.size < w2.heap.size + 1 + 1 := by omega
      have q4 : w.heap.size < w2.heap.size + 1 := by omega
      go_wp2_with fail
      refine (size_any ⟨b0, b1, b2, b3, b4, b5, b6, b7, b8, b9, [], pl ++ more⟩ _ _ (HR.out.below' (by repeat' (first | (with_reducible refine bset ?_ ?_) | (with_reducible exact Below.refl _ _) | (with_reducible assumption) | (with_reducible refine bdrewN ?_ _) | (with_reducible refine bdrew ?_) | (with_reducible refine balloc0 ?_) | (with_reducible refine balloc ?_ ?_) | (with_reducible apply btrans0; rotate_left; with_reducible assumption) | (with_reducible apply btrans; rotate_left; with_reducible assumption) | exact Below.refl _ _ | assumption | (apply btrans0; rotate_left; assumption) | (apply btrans; rotate_left; assumption) | (simp; done) | omega | (simp; omega)))) HFL.out).mono ?_
      rw [HM.out, HFC.out]
      rintro e w3 ⟨rfl, hb3⟩
      obtain ⟨k3, f3⟩ := bcell hb3
      have z3_0 : w.heap.size < w3.heap.size := by have := hb3.size; (try simp at this); omega
      have z3_1 : w2.heap.size < w3.heap.size := by have := hb3.size; (try simp at this); omega
      have z3_2 : w2.heap.size + 1 < w3.heap.size := by have := hb3.size; (try simp at this); omega
      by_cases hF : F = 0
      · have hF1 : (F == 0) = true := beq_iff_eq.2 hF
        have hM1 : ¬ M ≤ N := by have := HLT.out hF; omega
        clear hF
        go_wp2_with fail
        refine (awake_any _).mono ?_
        rintro e w99 ⟨rfl, hb99⟩
        go_wp2
        go_ret
        exact ⟨rfl, (by repeat' (first | (with_reducible refine bset ?_ ?_) | (with_reducible exact Below.refl _ _) | (with_reducible assumption) | (with_reducible refine bdrewN ?_ _) | (with_reducible refine bdrew ?_) | (with_reducible refine balloc0 ?_) | (with_reducible refine balloc ?_ ?_) | (with_reducible apply btrans0; rotate_left; with_reducible assumption) | (with_reducible apply btrans; rotate_left; with_reducible assumption) | exact Below.refl _ _ | assumption | (apply btrans0; rotate_left; assumption) | (apply btrans; rotate_left; assumption) | (simp; done) | omega | (simp; omega)))⟩
      · have hF1 : (F == 0) = false := beq_eq_false_iff_ne.2 hF
        clear hF
        go_wp2_with fail
        refine (awake_any _).mono ?_
        rintro e w99 ⟨rfl, hb99⟩
        go_wp2
        go_ret
        exact ⟨rfl, (by repeat' (first | (with_reducible refine bset ?_ ?_) | (with_reducible exact Below.refl _ _) | (with_reducible assumption) | (with_reducible refine bdrewN ?_ _) | (with_reducible refine bdrew ?_) | (with_reducible refine balloc0 ?_) | (with_reducible refine balloc ?_ ?_) | (with_reducible apply btrans0; rotate_left; with_reducible assumption) | (with_reducible apply btrans; rotate_left; with_reducible assumption) | exact Below.refl _ _ | assumption | (apply btrans0; rotate_left; assumption) | (apply btrans; rotate_left; assumption) | (simp; done) | omega | (simp; omega)))⟩
    · (refine fork_op rfl (by rfl) (fun K hK => ?_); go_simp)
      (refine hK _ _ (by exact (by repeat' (first | (with_reducible refine bset ?_ ?_) | (with_reducible exact Below.refl _ _) | (with_reducible assumption) | (with_reducible refine bdrewN ?_ _) | (with_reducible refine bdrew ?_) | (with_reducible refine balloc0 ?_) | (with_reducible refine balloc ?_ ?_) | (with_reducible apply btrans0; rotate_left; with_reducible assumption) | (with_reducible apply btrans; rotate_left; with_reducible assumption) | exact Below.refl _ _ | assumption | (apply btrans0; rotate_left; assumption) | (apply btrans; rotate_left; assumption) | (simp; done) | omega | (simp; omega)))) ?_; clear hK K; (try simp only [Act.put, List.setIfInBounds_toArray, List.set_cons_zero, List.set_cons_succ]))
      (refine plan_keep rfl rfl (by rfl) (fun K hK => ?_); go_simp)
      (refine hK _ _ (by exact (by repeat' (first | (with_reducible refine bset ?_ ?_) | (with_reducible exact Below.refl _ _) | (with_reducible assumption) | (with_reducible refine bdrewN ?_ _) | (with_reducible refine bdrew ?_) | (with_reducible refine balloc0 ?_) | (with_reducible refine balloc ?_ ?_) | (with_reducible apply btrans0; rotate_left; with_reducible assumption) | (with_reducible apply btrans; rotate_left; with_reducible assumption) | exact Below.refl _ _ | assumption | (apply btrans0; rotate_left; assumption) | (apply btrans; rotate_left; assumption) | (simp; done) | omega | (simp; omega)))) ?_; clear hK K; (try simp only [Act.put, List.setIfInBounds_toArray, List.set_cons_zero, List.set_cons_succ]))
      (refine plan_keep rfl rfl (by rfl) (fun K hK => ?_); go_simp)
      (refine hK _ _ (by exact (by repeat' (first | (with_reducible refine bset ?_ ?_) | (with_reducible exact Below.refl _ _) | (with_reducible assumption) | (with_reducible refine bdrewN ?_ _) | (with_reducible refine bdrew ?_) | (with_reducible refine balloc0 ?_) | (with_reducible refine balloc ?_ ?_) | (with_reducible apply btrans0; rotate_left; with_reducible assumption) | (with_reducible apply btrans; rotate_left; with_reducible assumption) | exact Below.refl _ _ | assumption | (apply btrans0; rotate_left; assumption) | (apply btrans; rotate_left; assumption) | (simp; done) | omega | (simp; omega)))) ?_; clear hK K; (try simp only [Act.put, List.setIfInBounds_toArray, List.set_cons_zero, List.set_cons_succ]))
      (refine plan_late rfl rfl (by rfl) (fun K hK => ?_); go_simp)
      (refine hK _ _ ?_; clear hK K; (try simp only [Act.put, List.setIfInBounds_toArray, List.set_cons_zero, List.set_cons_succ]))
      refine plan_done ?_
      have q3 : w.heap.size < w2.heap.size + 1 + 1 := by omega
      have q4 : w.heap.size < w2.heap.size + 1 := by omega
      go_wp2_with fail
      refine (size_any ⟨b0, b1, b2, b3, b4, b5, b6, b7, b8, b9, [], pl ++ more⟩ _ _ (HR.out.below' (by repeat' (first | (with_reducible refine bset ?_ ?_) | (with_reducible exact Below.refl _ _) | (with_reducible assumption) | (with_reducible refine bdrewN ?_ _) | (with_reducible refine bdrew ?_) | (with_reducible refine balloc0 ?_) | (with_reducible refine balloc ?_ ?_) | (with_reducible apply btrans0; rotate_left; with_reducible assumption) | (with_reducible apply btrans; rotate_left; with_reducible assumption) | exact Below.refl _ _ | assumption | (apply btrans0; rotate_left; assumption) | (apply btrans; rotate_left; assumption) | (simp; done) | omega | (simp; omega)))) HFL.out).mono ?_
      rw [HM.out, HFC.out]
      rintro e w3 ⟨rfl, hb3⟩
      obtain ⟨k3, f3⟩ := bcell hb3
      have z3_0 : w.heap.size < w3.heap.size := by have := hb3.size; (try simp at this); omega
      have z3_1 : w2.heap.size < w3.heap.size := by have := hb3.size; (try simp at this); omega
      have z3_2 : w2.heap.size + 1 < w3.heap.size := by have := hb3.size; (try simp at this); omega
      by_cases hF : F = 0
      · have hF1 : (F == 0) = true := beq_iff_eq.2 hF
        have hM1 : ¬ M ≤ N := by have := HLT.out hF; omega
        clear hF
        go_wp2_with fail
        refine (awake_any _).mono ?_
        rintro e w99 ⟨rfl, hb99⟩
        go_wp2
        go_ret
        exact ⟨rfl, (by repeat' (first | (with_reducible refine bset ?_ ?_) | (with_reducible exact Below.refl _ _) | (with_reducible assumption) | (with_reducible refine bdrewN ?_ _) | (with_reducible refine bdrew ?_) | (with_reducible refine balloc0 ?_) | (with_reducible refine balloc ?_ ?_) | (with_reducible apply btrans0; rotate_left; with_reducible assumption) | (with_reducible apply btrans; rotate_left; with_reducible assumption) | exact Below.refl _ _ | assumption | (apply btrans0; rotate_left; assumption) | (apply btrans; rotate_left; assumption) | (simp; done) | omega | (simp; omega)))⟩
      · have hF1 : (F == 0) = false := beq_eq_false_iff_ne.2 hF
        clear hF
        go_wp2_with fail
        refine (awake_any _).mono ?_
        rintro e w99 ⟨rfl, hb99⟩
        go_wp2
        go_ret
        exact ⟨rfl, (by repeat' (first | (with_reducible refine bset ?_ ?_) | (with_reducible exact Below.refl _ _) | (with_reducible assumption) | (with_reducible refine bdrewN ?_ _) | (with_reducible refine bdrew ?_) | (with_reducible refine balloc0 ?_) | (with_reducible refine balloc ?_ ?_) | (with_reducible apply btrans0; rotate_left; with_reducible assumption) | (with_reducible apply btrans; rotate_left; with_reducible assumption) | exact Below.refl _ _ | assumption | (apply btrans0; rotate_left; assumption) | (apply btrans; rotate_left; assumption) | (simp; done) | omega | (simp; omega)))⟩
  | cons x l =>
    obtain ⟨_, c2, e2, hl1, hl2, hl3, hl4⟩ := id HR.out
    obtain ⟨bb, o, e3, hbb, hcc⟩ := hl4 (by simp)
    subst e3
    injection e2 with e4 _ e5
    subst e4 e5
    have hl1' : l.length + 1 ≤ uc := hl1
    have hsz := siz_shorter (b := ⟨b0, b1, b2, b3, b4, b5, b6, b7, b8, b9, x :: l, pl⟩) hz rfl
    have hct := chk_tail (b := ⟨b0, b1, b2, b3, b4, b5, b6, b7, b8, b9, x :: l, pl⟩) hz rfl
    clear hl4 hcc hl1
    unfold maxLen at hl2
    by_cases hc1 : uc = 1
    · subst hc1
      obtain rfl : l = [] := List.length_eq_zero_iff.1 (by omega)
      have HTL : Hid (RBlks w w.heap.size (.slice (some ⟨bb, o, none⟩) 0 0) []) := Lib.hid (RBlks.none_ (by unfold maxLen; omega) (fun _ => rfl))
      have hN1 := siz_pay hz
      have hN2 := (siz_top ⟨b0, b1, b2, b3, b4, b5, b6, b7, b8, b9, [x], pl⟩).2
      have hpl : pl.length ≤ 4096 := (payE_zero (chkE_zero hz).2.2.2.1).1
      obtain ⟨N, hN⟩ : ∃ q, sizS ⟨b0, b1, b2, b3, b4, b5, b6, b7, b8, b9, [x], pl⟩ = q := ⟨_, rfl⟩
      obtain ⟨M, hM⟩ : ∃ q, sizS ⟨b0, b1, b2, b3, b4, b5, b6, b7, b8, b9, [x], pl ++ more⟩ = q := ⟨_, rfl⟩
      obtain ⟨F, hF⟩ : ∃ q, chkE ⟨b0, b1, b2, b3, b4, b5, b6, b7, b8, b9, [x], pl ++ more⟩ = q := ⟨_, rfl⟩
      have hlt : F = 0 → N < M := fun h => by
        rw [← hN, ← hM]
        exact siz_longer (b := ⟨b0, b1, b2, b3, b4, b5, b6, b7, b8, b9, [x], pl⟩) hz (by omega) (by rw [← h, ← hF])
      rw [hN] at hN1 hN2
      have hN1' : ¬ N ≤ (pl.length : Int) := by simp only at hN1; omega
      have hN2' : ¬ 65536 < N := by omega
      have hcat : ¬ 9223372036854775807 < pl.length + more.length := by omega
      have HFL : Hid (Fits ⟨b0, b1, b2, b3, b4, b5, b6, b7, b8, b9, [x], pl ++ more⟩) := Lib.hid ⟨by show (pl ++ more).length ≤ maxLen; rw [List.length_append]; unfold maxLen; omega, HF.out.2⟩
      have HNN := Lib.hid hN
      have HM := Lib.hid hM
      have HFC := Lib.hid hF
      have HLT := Lib.hid hlt
      have HZ := Lib.hid hz
      obtain ⟨N2, hN2q⟩ : ∃ q, sizS ⟨b0, b1, b2, b3, b4, b5, b6, b7, b8, b9, [], pl⟩ = q := ⟨_, rfl⟩
      have hsz' : ¬ N ≤ N2 := by rw [hN] at hsz; rw [← hN2q]; simp only at hsz; omega
      have HS2 := Lib.hid hN2q
      have HC2 : Hid (chkE ⟨b0, b1, b2, b3, b4, b5, b6, b7, b8, b9, [], pl⟩ = 0) := Lib.hid hct
      have HFT : Hid (Fits ⟨b0, b1, b2, b3, b4, b5, b6, b7, b8, b9, [], pl⟩) := Lib.hid ⟨HF.out.1, fun y hy => HF.out.2 y (List.mem_cons_of_mem _ hy)⟩
      clear hsz hct hN2q
      clear hN hM hF hlt hz hN1 hN2
      go_enter Try.func8, Try.ntmps8
      simp only [bunC]
      go_wp2_with fail
      refine (bgreat_any ⟨b0, b1, b2, b3, b4, b5, b6, b7, b8, b9, [x], pl⟩ _ _ (HR.out.below' (by repeat' (first | (with_reducible refine bset ?_ ?_) | (with_reducible exact Below.refl _ _) | (with_reducible assumption) | (with_reducible refine bdrewN ?_ _) | (with_reducible refine bdrew ?_) | (with_reducible refine balloc0 ?_) | (with_reducible refine balloc ?_ ?_) | (with_reducible apply btrans0; rotate_left; with_reducible assumption) | (with_reducible apply btrans; rotate_left; with_reducible assumption) | exact Below.refl _ _ | assumption | (apply btrans0; rotate_left; assumption) | (apply btrans; rotate_left; assumption) | (simp; done) | omega | (simp; omega)))) HF.out).mono ?_
      rintro e w1 ⟨g, rfl, hb1⟩
      obtain ⟨k1, f1⟩ := bcell hb1
      have z1_0 : w.heap.size < w1.heap.size := by have := hb1.size; (try simp at this); omega
      cases g
      case true =>
        go_wp2_with fail
        refine (awake_any _).mono ?_
        rintro e w99 ⟨rfl, hb99⟩
        go_wp2
        go_ret
        exact ⟨rfl, (by repeat' (first | (with_reducible refine bset ?_ ?_) | (with_reducible exact Below.refl _ _) | (with_reducible assumption) | (with_reducible refine bdrewN ?_ _) | (with_reducible refine bdrew ?_) | (with_reducible refine balloc0 ?_) | (with_reducible refine balloc ?_ ?_) | (with_reducible apply btrans0; rotate_left; with_reducible assumption) | (with_reducible apply btrans; rotate_left; with_reducible assumption) | exact Below.refl _ _ | assumption | (apply btrans0; rotate_left; assumption) | (apply btrans; rotate_left; assumption) | (simp; done) | omega | (simp; omega)))⟩
      go_wp2_with fail
      refine (size_any ⟨b0, b1, b2, b3, b4, b5, b6, b7, b8, b9, [x], pl⟩ _ _ (HR.out.below' (by repeat' (first | (with_reducible refine bset ?_ ?_) | (with_reducible exact Below.refl _ _) | (with_reducible assumption) | (with_reducible refine bdrewN ?_ _) | (with_reducible refine bdrew ?_) | (with_reducible refine balloc0 ?_) | (with_reducible refine balloc ?_ ?_) | (with_reducible apply btrans0; rotate_left; with_reducible assumption) | (with_reducible apply btrans; rotate_left; with_reducible assumption) | exact Below.refl _ _ | assumption | (apply btrans0; rotate_left; assumption) | (apply btrans; rotate_left; assumption) | (simp; done) | omega | (simp; omega)))) HF.out).mono ?_
      rw [HNN.out, HZ.out]
      rintro e w2 ⟨rfl, hb2⟩
      obtain ⟨k2, f2⟩ := bcell hb2
      have z2_0 : w.heap.size < w2.heap.size := by have := hb2.size; (try simp at this); omega
      go_wp2
      refine wp_region_fork (fun V => Below w2.heap.size w2 V) [1, 1, 2, 2, 2, 3] [0, 1] 2 3 [3, 4, 5] [2, 4, 5] (by kernel_rfl) (by kernel_rfl) ?_ ?_
      case refine_1 => exact (by repeat' (first | (with_reducible refine bset ?_ ?_) | (with_reducible exact Below.refl _ _) | (with_reducible assumption) | (with_reducible refine bdrewN ?_ _) | (with_reducible refine bdrew ?_) | (with_reducible refine balloc0 ?_) | (with_reducible refine balloc ?_ ?_) | (with_reducible apply btrans0; rotate_left; with_reducible assumption) | (with_reducible apply btrans; rotate_left; with_reducible assumption) | exact Below.refl _ _ | assumption | (apply btrans0; rotate_left; assumption) | (apply btrans; rotate_left; assumption) | (simp; done) | omega | (simp; omega)))
      (iterate 2 (refine planR_held rfl (by rfl) (fun w1 hS => by (try (obtain ⟨_, _⟩ := bcell (hS rfl))); go_simp; rfl) ?_; simp only [Act.put, List.setIfInBounds_toArray, List.set_cons_zero, List.set_cons_succ]))
      refine ⟨?_, ?_⟩
      · (refine fork_op rfl (by rfl) (fun K hK => ?_); go_simp)
        (refine hK _ _ (by exact (by repeat' (first | (with_reducible refine bset ?_ ?_) | (with_reducible exact Below.refl _ _) | (with_reducible assumption) | (with_reducible refine bdrewN ?_ _) | (with_reducible refine bdrew ?_) | (with_reducible refine balloc0 ?_) | (with_reducible refine balloc ?_ ?_) | (with_reducible apply btrans0; rotate_left; with_reducible assumption) | (with_reducible apply btrans; rotate_left; with_reducible assumption) | exact Below.refl _ _ | assumption | (apply btrans0; rotate_left; assumption) | (apply btrans; rotate_left; assumption) | (simp; done) | omega | (simp; omega)))) ?_; clear hK K; (try simp only [Act.put, List.setIfInBounds_toArray, List.set_cons_zero, List.set_cons_succ]))
        (refine plan_keep rfl rfl (by rfl) (fun K hK => ?_); go_simp)
        (refine hK _ _ (by exact (by repeat' (first | (with_reducible refine bset ?_ ?_) | (with_reducible exact Below.refl _ _) | (with_reducible assumption) | (with_reducible refine bdrewN ?_ _) | (with_reducible refine bdrew ?_) | (with_reducible refine balloc0 ?_) | (with_reducible refine balloc ?_ ?_) | (with_reducible apply btrans0; rotate_left; with_reducible assumption) | (with_reducible apply btrans; rotate_left; with_reducible assumption) | exact Below.refl _ _ | assumption | (apply btrans0; rotate_left; assumption) | (apply btrans; rotate_left; assumption) | (simp; done) | omega | (simp; omega)))) ?_; clear hK K; (try simp only [Act.put, List.setIfInBounds_toArray, List.set_cons_zero, List.set_cons_succ]))
        (refine plan_keep rfl rfl (by rfl) (fun K hK => ?_); go_simp)
        (refine hK _ _ (by exact (by repeat' (first | (with_reducible refine bset ?_ ?_) | (with_reducible exact Below.refl _ _) | (with_reducible assumption) | (with_reducible refine bdrewN ?_ _) | (with_reducible refine bdrew ?_) | (with_reducible refine balloc0 ?_) | (with_reducible refine balloc ?_ ?_) | (with_reducible apply btrans0; rotate_left; with_reducible assumption) | (with_reducible apply btrans; rotate_left; with_reducible assumption) | exact Below.refl _ _ | assumption | (apply btrans0; rotate_left; assumption) | (apply btrans; rotate_left; assumption) | (simp; done) | omega | (simp; omega)))) ?_; clear hK K; (try simp only [Act.put, List.setIfInBounds_toArray, List.set_cons_zero, List.set_cons_succ]))
        (refine plan_late rfl rfl (by rfl) (fun K hK => ?_); go_simp)
        (refine hK _ _ ?_; clear hK K; (try simp only [Act.put, List.setIfInBounds_toArray, List.set_cons_zero, List.set_cons_succ]))
        refine plan_done ?_
        have q3 : w.heap.size < w2.heap.size + 1 + 1 := by omega
        have q4 : w.heap.size < w2.heap.size + 1 := by omega
        go_wp2_with fail
        refine (size_any ⟨b0, b1, b2, b3, b4, b5, b6, b7, b8, b9, [x], pl ++ more⟩ _ _ (HR.out.below' (by repeat' (first | (with_reducible refine bset ?_ ?_) | (with_reducible exact Below.refl _ _) | (with_reducible assumption) | (with_reducible refine bdrewN ?_ _) | (with_reducible refine bdrew ?_) | (with_reducible refine balloc0 ?_) | (with_reducible refine balloc ?_ ?_) | (with_reducible apply btrans0; rotate_left; with_reducible assumption) | (with_reducible apply btrans; rotate_left; with_reducible assumption) | exact Below.refl _ _ | assumption | (apply btrans0; rotate_left; assumption) | (apply btrans; rotate_left; assumption) | (simp; done) | omega | (simp; omega)))) HFL.out).mono ?_
        rw [HM.out, HFC.out]
        rintro e w3 ⟨rfl, hb3⟩
        obtain ⟨k3, f3⟩ := bcell hb3
        have z3_0 : w.heap.size < w3.heap.size := by have := hb3.size; (try simp at this); omega
        have z3_1 : w2.heap.size < w3.heap.size := by have := hb3.size; (try simp at this); omega
        have z3_2 : w2.heap.size + 1 < w3.heap.size := by have := hb3.size; (try simp at this); omega
        have XS3 : w3.heap[w2.heap.size + 1]? = some (.cells (bunC ⟨b0, b1, b2, b3, b4, b5, b6, b7, b8, b9, [x], pl⟩ (.slice (some ⟨bb, o, none⟩) 1 1)).toArray 28 (0, 0)) := (hb3.block _ (by simp; try omega)).trans (by exact heap_new' (by simp))
        have cS := fun o => cellB XS3 o
        have fS := fun o => frozenB XS3 o
        simp only [bunC] at cS
        by_cases hF : F = 0
        · have hF1 : (F == 0) = true := beq_iff_eq.2 hF
          have hM1 : ¬ M ≤ N := by have := HLT.out hF; omega
          clear hF
          go_wp2_with fail
          refine (size_any ⟨b0, b1, b2, b3, b4, b5, b6, b7, b8, b9, [], pl⟩ _ _ (HTL.out.below' (by repeat' (first | (with_reducible refine bset ?_ ?_) | (with_reducible exact Below.refl _ _) | (with_reducible assumption) | (with_reducible refine bdrewN ?_ _) | (with_reducible refine bdrew ?_) | (with_reducible refine balloc0 ?_) | (with_reducible refine balloc ?_ ?_) | (with_reducible apply btrans0; rotate_left; with_reducible assumption) | (with_reducible apply btrans; rotate_left; with_reducible assumption) | exact Below.refl _ _ | assumption | (apply btrans0; rotate_left; assumption) | (apply btrans; rotate_left; assumption) | (simp; done) | omega | (simp; omega)))) HFT.out).mono ?_
          rw [HS2.out, HC2.out]
          rintro e w6 ⟨rfl, hb6⟩
          obtain ⟨k6, f6⟩ := bcell hb6
          go_wp2_with fail
          refine (awake_any _).mono ?_
          rintro e w99 ⟨rfl, hb99⟩
          go_wp2
          go_ret
          exact ⟨rfl, (by repeat' (first | (with_reducible refine bset ?_ ?_) | (with_reducible exact Below.refl _ _) | (with_reducible assumption) | (with_reducible refine bdrewN ?_ _) | (with_reducible refine bdrew ?_) | (with_reducible refine balloc0 ?_) | (with_reducible refine balloc ?_ ?_) | (with_reducible apply btrans0; rotate_left; with_reducible assumption) | (with_reducible apply btrans; rotate_left; with_reducible assumption) | exact Below.refl _ _ | assumption | (apply btrans0; rotate_left; assumption) | (apply btrans; rotate_left; assumption) | (simp; done) | omega | (simp; omega)))⟩
        · have hF1 : (F == 0) = false := beq_eq_false_iff_ne.2 hF
          clear hF
          go_wp2_with fail
          refine (size_any ⟨b0, b1, b2, b3, b4, b5, b6, b7, b8, b9, [], pl⟩ _ _ (HTL.out.below' (by repeat' (first | (with_reducible refine bset ?_ ?_) | (with_reducible exact Below.refl _ _) | (with_reducible assumption) | (with_reducible refine bdrewN ?_ _) | (with_reducible refine bdrew ?_) | (with_reducible refine balloc0 ?_) | (with_reducible refine balloc ?_ ?_) | (with_reducible apply btrans0; rotate_left; with_reducible assumption) | (with_reducible apply btrans; rotate_left; with_reducible assumption) | exact Below.refl _ _ | assumption | (apply btrans0; rotate_left; assumption) | (apply btrans; rotate_left; assumption) | (simp; done) | omega | (simp; omega)))) HFT.out).mono ?_
          rw [HS2.out, HC2.out]
          rintro e w6 ⟨rfl, hb6⟩
          obtain ⟨k6, f6⟩ := bcell hb6
          go_wp2_with fail
          refine (awake_any _).mono ?_
          rintro e w99 ⟨rfl, hb99⟩
          go_wp2
          go_ret
          exact ⟨rfl, (by repeat' (first | (with_reducible refine bset ?_ ?_) | (with_reducible exact Below.refl _ _) | (with_reducible assumption) | (with_reducible refine bdrewN ?_ _) | (with_reducible refine bdrew ?_) | (with_reducible refine balloc0 ?_) | (with_reducible refine balloc ?_ ?_) | (with_reducible apply btrans0; rotate_left; with_reducible assumption) | (with_reducible apply btrans; rotate_left; with_reducible assumption) | exact Below.refl _ _ | assumption | (apply btrans0; rotate_left; assumption) | (apply btrans; rotate_left; assumption) | (simp; done) | omega | (simp; omega)))⟩
      · (refine fork_op rfl (by rfl) (fun K hK => ?_); go_simp)
        (refine hK _ _ (by exact (by repeat' (first | (with_reducible refine bset ?_ ?_) | (with_reducible exact Below.refl _ _) | (with_reducible assumption) | (with_reducible refine bdrewN ?_ _) | (with_reducible refine bdrew ?_) | (with_reducible refine balloc0 ?_) | (with_reducible refine balloc ?_ ?_) | (with_reducible apply btrans0; rotate_left; with_reducible assumption) | (with_reducible apply btrans; rotate_left; with_reducible assumption) | exact Below.refl _ _ | assumption | (apply btrans0; rotate_left; assumption) | (apply btrans; rotate_left; assumption) | (simp; done) | omega | (simp; omega)))) ?_; clear hK K; (try simp only [Act.put, List.setIfInBounds_toArray, List.set_cons_zero, List.set_cons_succ]))
        (refine plan_keep rfl rfl (by rfl) (fun K hK => ?_); go_simp)
        (refine hK _ _ (by exact (by repeat' (first | (with_reducible refine bset ?_ ?_) | (with_reducible exact Below.refl _ _) | (with_reducible assumption) | (with_reducible refine bdrewN ?_ _) | (with_reducible refine bdrew ?_) | (with_reducible refine balloc0 ?_) | (with_reducible refine balloc ?_ ?_) | (with_reducible apply btrans0; rotate_left; with_reducible assumption) | (with_reducible apply btrans; rotate_left; with_reducible assumption) | exact Below.refl _ _ | assumption | (apply btrans0; rotate_left; assumption) | (apply btrans; rotate_left; assumption) | (simp; done) | omega | (simp; omega)))) ?_; clear hK K; (try simp only [Act.put, List.setIfInBounds_toArray, List.set_cons_zero, List.set_cons_succ]))
        (refine plan_keep rfl rfl (by rfl) (fun K hK => ?_); go_simp)
        (refine hK _ _ (by exact (by repeat' (first | (with_reducible refine bset ?_ ?_) | (with_reducible exact Below.refl _ _) | (with_reducible assumption) | (with_reducible refine bdrewN ?_ _) | (with_reducible refine bdrew ?_) | (with_reducible refine balloc0 ?_) | (with_reducible refine balloc ?_ ?_) | (with_reducible apply btrans0; rotate_left; with_reducible assumption) | (with_reducible apply btrans; rotate_left; with_reducible assumption) | exact Below.refl _ _ | assumption | (apply btrans0; rotate_left; assumption) | (apply btrans; rotate_left; assumption) | (simp; done) | omega | (simp; omega)))) ?_; clear hK K; (try simp only [Act.put, List.setIfInBounds_toArray, List.set_cons_zero, List.set_cons_succ]))
        (refine plan_late rfl rfl (by rfl) (fun K hK => ?_); go_simp)
        (refine hK _ _ ?_; clear hK K; (try simp only [Act.put, List.setIfInBounds_toArray, List.set_cons_zero, List.set_cons_succ]))
        refine plan_done ?_
        have q3 : w.heap.size < w2.heap.size + 1 + 1 := by omega
        have q4 : w.heap.size < w2.heap.size + 1 := by omega
        go_wp2_with fail
        refine (size_any ⟨b0, b1, b2, b3, b4, b5, b6, b7, b8, b9, [x], pl ++ more⟩ _ _ (HR.out.below' (by repeat' (first | (with_reducible refine bset ?_ ?_) | (with_reducible exact Below.refl _ _) | (with_reducible assumption) | (with_reducible refine bdrewN ?_ _) | (with_reducible refine bdrew ?_) | (with_reducible refine balloc0 ?_) | (with_reducible refine balloc ?_ ?_) | (with_reducible apply btrans0; rotate_left; with_reducible assumption) | (with_reducible apply btrans; rotate_left; with_reducible assumption) | exact Below.refl _ _ | assumption | (apply btrans0; rotate_left; assumption) | (apply btrans; rotate_left; assumption) | (simp; done) | omega | (simp; omega)))) HFL.out).mono ?_
        rw [HM.out, HFC.out]
        rintro e w3 ⟨rfl, hb3⟩
        obtain ⟨k3, f3⟩ := bcell hb3
        have z3_0 : w.heap.size < w3.heap.size := by have := hb3.size; (try simp at this); omega
        have z3_1 : w2.heap.size < w3.heap.size := by have := hb3.size; (try simp at this); omega
        have z3_2 : w2.heap.size + 1 < w3.heap.size := by have := hb3.size; (try simp at this); omega
        have XS3 : w3.heap[w2.heap.size]? = some (.cells (bunC ⟨b0, b1, b2, b3, b4, b5, b6, b7, b8, b9, [x], pl⟩ (.slice (some ⟨bb, o, none⟩) 1 1)).toArray 28 (0, 0)) := (hb3.block _ (by simp; try omega)).trans (by exact (Below.heap_alloc _ _ _ (by simp)).trans heap_new)
        have cS := fun o => cellB XS3 o
        have fS := fun o => frozenB XS3 o
        simp only [bunC] at cS
        by_cases hF : F = 0
        · have hF1 : (F == 0) = true := beq_iff_eq.2 hF
          have hM1 : ¬ M ≤ N := by have := HLT.out hF; omega
          clear hF
          go_wp2_with fail
          refine (size_any ⟨b0, b1, b2, b3, b4, b5, b6, b7, b8, b9, [], pl⟩ _ _ (HTL.out.below' (by repeat' (first | (with_reducible refine bset ?_ ?_) | (with_reducible exact Below.refl _ _) | (with_reducible assumption) | (with_reducible refine bdrewN ?_ _) | (with_reducible refine bdrew ?_) | (with_reducible refine balloc0 ?_) | (with_reducible refine balloc ?_ ?_) | (with_reducible apply btrans0; rotate_left; with_reducible assumption) | (with_reducible apply btrans; rotate_left; with_reducible assumption) | exact Below.refl _ _ | assumption | (apply btrans0; rotate_left; assumption) | (apply btrans; rotate_left; assumption) | (simp; done) | omega | (simp; omega)))) HFT.out).mono ?_
          rw [HS2.out, HC2.out]
          rintro e w6 ⟨rfl, hb6⟩
          obtain ⟨k6, f6⟩ := bcell hb6
          go_wp2_with fail
          refine (awake_any _).mono ?_
          rintro e w99 ⟨rfl, hb99⟩
          go_wp2
          go_ret
          exact ⟨rfl, (by repeat' (first | (with_reducible refine bset ?_ ?_) | (with_reducible exact Below.refl _ _) | (with_reducible assumption) | (with_reducible refine bdrewN ?_ _) | (with_reducible refine bdrew ?_) | (with_reducible refine balloc0 ?_) | (with_reducible refine balloc ?_ ?_) | (with_reducible apply btrans0; rotate_left; with_reducible assumption) | (with_reducible apply btrans; rotate_left; with_reducible assumption) | exact Below.refl _ _ | assumption | (apply btrans0; rotate_left; assumption) | (apply btrans; rotate_left; assumption) | (simp; done) | omega | (simp; omega)))⟩
        · have hF1 : (F == 0) = false := beq_eq_false_iff_ne.2 hF
          clear hF
          go_wp2_with fail
          refine (size_any ⟨b0, b1, b2, b3, b4, b5, b6, b7, b8, b9, [], pl⟩ _ _ (HTL.out.below' (by repeat' (first | (with_reducible refine bset ?_ ?_) | (with_reducible exact Below.refl _ _) | (with_reducible assumption) | (with_reducible refine bdrewN ?_ _) | (with_reducible refine bdrew ?_) | (with_reducible refine balloc0 ?_) | (with_reducible refine balloc ?_ ?_) | (with_reducible apply btrans0; rotate_left; with_reducible assumption) | (with_reducible apply btrans; rotate_left; with_reducible assumption) | exact Below.refl _ _ | assumption | (apply btrans0; rotate_left; assumption) | (apply btrans; rotate_left; assumption) | (simp; done) | omega | (simp; omega)))) HFT.out).mono ?_
          rw [HS2.out, HC2.out]
          rintro e w6 ⟨rfl, hb6⟩
          obtain ⟨k6, f6⟩ := bcell hb6
          go_wp2_with fail
          refine (awake_any _).mono ?_
          rintro e w99 ⟨rfl, hb99⟩
          go_wp2
          go_ret
          exact ⟨rfl, (by repeat' (first | (with_reducible refine bset ?_ ?_) | (with_reducible exact Below.refl _ _) | (with_reducible assumption) | (with_reducible refine bdrewN ?_ _) | (with_reducible refine bdrew ?_) | (with_reducible refine balloc0 ?_) | (with_reducible refine balloc ?_ ?_) | (with_reducible apply btrans0; rotate_left; with_reducible assumption) | (with_reducible apply btrans; rotate_left; with_reducible assumption) | exact Below.refl _ _ | assumption | (apply btrans0; rotate_left; assumption) | (apply btrans; rotate_left; assumption) | (simp; done) | omega | (simp; omega)))⟩
    · have HTL : Hid (RBlks w w.heap.size (.slice (some ⟨bb, o + 3, none⟩) l.length (uc - 1)) l) := Lib.hid (HR.out.tail _ rfl)
      have hc2 : 1 < uc := by omega
      have hN1 := siz_pay hz
      have hN2 := (siz_top ⟨b0, b1, b2, b3, b4, b5, b6, b7, b8, b9, (x :: l), pl⟩).2
      have hpl : pl.length ≤ 4096 := (payE_zero (chkE_zero hz).2.2.2.1).1
      obtain ⟨N, hN⟩ : ∃ q, sizS ⟨b0, b1, b2, b3, b4, b5, b6, b7, b8, b9, (x :: l), pl⟩ = q := ⟨_, rfl⟩
      obtain ⟨M, hM⟩ : ∃ q, sizS ⟨b0, b1, b2, b3, b4, b5, b6, b7, b8, b9, (x :: l), pl ++ more⟩ = q := ⟨_, rfl⟩
      obtain ⟨F, hF⟩ : ∃ q, chkE ⟨b0, b1, b2, b3, b4, b5, b6, b7, b8, b9, (x :: l), pl ++ more⟩ = q := ⟨_, rfl⟩
      have hlt : F = 0 → N < M := fun h => by
        rw [← hN, ← hM]
        exact siz_longer (b := ⟨b0, b1, b2, b3, b4, b5, b6, b7, b8, b9, (x :: l), pl⟩) hz (by omega) (by rw [← h, ← hF])
      rw [hN] at hN1 hN2
      have hN1' : ¬ N ≤ (pl.length : Int) := by simp only at hN1; omega
      have hN2' : ¬ 65536 < N := by omega
      have hcat : ¬ 9223372036854775807 < pl.length + more.length := by omega
      have HFL : Hid (Fits ⟨b0, b1, b2, b3, b4, b5, b6, b7, b8, b9, (x :: l), pl ++ more⟩) := Lib.hid ⟨by show (pl ++ more).length ≤ maxLen; rw [List.length_append]; unfold maxLen; omega, HF.out.2⟩
      have HNN := Lib.hid hN
      have HM := Lib.hid hM
      have HFC := Lib.hid hF
      have HLT := Lib.hid hlt
      have HZ := Lib.hid hz
      obtain ⟨N2, hN2q⟩ : ∃ q, sizS ⟨b0, b1, b2, b3, b4, b5, b6, b7, b8, b9, l, pl⟩ = q := ⟨_, rfl⟩
      have hsz' : ¬ N ≤ N2 := by rw [hN] at hsz; rw [← hN2q]; simp only at hsz; omega
      have HS2 := Lib.hid hN2q
      have HC2 : Hid (chkE ⟨b0, b1, b2, b3, b4, b5, b6, b7, b8, b9, l, pl⟩ = 0) := Lib.hid hct
      have HFT : Hid (Fits ⟨b0, b1, b2, b3, b4, b5, b6, b7, b8, b9, l, pl⟩) := Lib.hid ⟨HF.out.1, fun y hy => HF.out.2 y (List.mem_cons_of_mem _ hy)⟩
      clear hsz hct hN2q
      clear hN hM hF hlt hz hN1 hN2
      go_enter Try.func8, Try.ntmps8
      simp only [bunC]
      go_wp2_with fail
      refine (bgreat_any ⟨b0, b1, b2, b3, b4, b5, b6, b7, b8, b9, (x :: l), pl⟩ _ _ (HR.out.below' (by repeat' (first | (with_reducible refine bset ?_ ?_) | (with_reducible exact Below.refl _ _) | (with_reducible assumption) | (with_reducible refine bdrewN ?_ _) | (with_reducible refine bdrew ?_) | (with_reducible refine balloc0 ?_) | (with_reducible refine balloc ?_ ?_) | (with_reducible apply btrans0; rotate_left; with_reducible assumption) | (with_reducible apply btrans; rotate_left; with_reducible assumption) | exact Below.refl _ _ | assumption | (apply btrans0; rotate_left; assumption) | (apply btrans; rotate_left; assumption) | (simp; done) | omega | (simp; omega)))) HF.out).mono ?_
      rintro e w1 ⟨g, rfl, hb1⟩
      obtain ⟨k1, f1⟩ := bcell hb1
      have z1_0 : w.heap.size < w1.heap.size := by have := hb1.size; (try simp at this); omega
      cases g
      case true =>
        go_wp2_with fail
        refine (awake_any _).mono ?_
        rintro e w99 ⟨rfl, hb99⟩
        go_wp2
        go_ret
        exact ⟨rfl, (by repeat' (first | (with_reducible refine bset ?_ ?_) | (with_reducible exact Below.refl _ _) | (with_reducible assumption) | (with_reducible refine bdrewN ?_ _) | (with_reducible refine bdrew ?_) | (with_reducible refine balloc0 ?_) | (with_reducible refine balloc ?_ ?_) | (with_reducible apply btrans0; rotate_left; with_reducible assumption) | (with_reducible apply btrans; rotate_left; with_reducible assumption) | exact Below.refl _ _ | assumption | (apply btrans0; rotate_left; assumption) | (apply btrans; rotate_left; assumption) | (simp; done) | omega | (simp; omega)))⟩
      go_wp2_with fail
      refine (size_any ⟨b0, b1, b2, b3, b4, b5, b6, b7, b8, b9, (x :: l), pl⟩ _ _ (HR.out.below' (by repeat' (first | (with_reducible refine bset ?_ ?_) | (with_reducible exact Below.refl _ _) | (with_reducible assumption) | (with_reducible refine bdrewN ?_ _) | (with_reducible refine bdrew ?_) | (with_reducible refine balloc0 ?_) | (with_reducible refine balloc ?_ ?_) | (with_reducible apply btrans0; rotate_left; with_reducible assumption) | (with_reducible apply btrans; rotate_left; with_reducible assumption) | exact Below.refl _ _ | assumption | (apply btrans0; rotate_left; assumption) | (apply btrans; rotate_left; assumption) | (simp; done) | omega | (simp; omega)))) HF.out).mono ?_
      rw [HNN.out, HZ.out]
      rintro e w2 ⟨rfl, hb2⟩
      obtain ⟨k2, f2⟩ := bcell hb2
      have z2_0 : w.heap.size < w2.heap.size := by have := hb2.size; (try simp at this); omega
      go_wp2
      refine wp_region_fork (fun V => Below w2.heap.size w2 V) [1, 1, 2, 2, 2, 3] [0, 1] 2 3 [3, 4, 5] [2, 4, 5] (by kernel_rfl) (by kernel_rfl) ?_ ?_
      case refine_1 => exact (by repeat' (first | (with_reducible refine bset ?_ ?_) | (with_reducible exact Below.refl _ _) | (with_reducible assumption) | (with_reducible refine bdrewN ?_ _) | (with_reducible refine bdrew ?_) | (with_reducible refine balloc0 ?_) | (with_reducible refine balloc ?_ ?_) | (with_reducible apply btrans0; rotate_left; with_reducible assumption) | (with_reducible apply btrans; rotate_left; with_reducible assumption) | exact Below.refl _ _ | assumption | (apply btrans0; rotate_left; assumption) | (apply btrans; rotate_left; assumption) | (simp; done) | omega | (simp; omega)))
      (iterate 2 (refine planR_held rfl (by rfl) (fun w1 hS => by (try (obtain ⟨_, _⟩ := bcell (hS rfl))); go_simp; rfl) ?_; simp only [Act.put, List.setIfInBounds_toArray, List.set_cons_zero, List.set_cons_succ]))
      refine ⟨?_, ?_⟩
      · (refine fork_op rfl (by rfl) (fun K hK => ?_); go_simp)
        (refine hK _ _ (by exact (by repeat' (first | (with_reducible refine bset ?_ ?_) | (with_reducible exact Below.refl _ _) | (with_reducible assumption) | (with_reducible refine bdrewN ?_ _) | (with_reducible refine bdrew ?_) | (with_reducible refine balloc0 ?_) | (with_reducible refine balloc ?_ ?_) | (with_reducible apply btrans0; rotate_left; with_reducible assumption) | (with_reducible apply btrans; rotate_left; with_reducible assumption) | exact Below.refl _ _ | assumption | (apply btrans0; rotate_left; assumption) | (apply btrans; rotate_left; assumption) | (simp; done) | omega | (simp; omega)))) ?_; clear hK K; (try simp only [Act.put, List.setIfInBounds_toArray, List.set_cons_zero, List.set_cons_succ]))
        (refine plan_keep rfl rfl (by rfl) (fun K hK => ?_); go_simp)
        (refine hK _ _ (by exact (by repeat' (first | (with_reducible refine bset ?_ ?_) | (with_reducible exact Below.refl _ _) | (with_reducible assumption) | (with_reducible refine bdrewN ?_ _) | (with_reducible refine bdrew ?_) | (with_reducible refine balloc0 ?_) | (with_reducible refine balloc ?_ ?_) | (with_reducible apply btrans0; rotate_left; with_reducible assumption) | (with_reducible apply btrans; rotate_left; with_reducible assumption) | exact Below.refl _ _ | assumption | (apply btrans0; rotate_left; assumption) | (apply btrans; rotate_left; assumption) | (simp; done) | omega | (simp; omega)))) ?_; clear hK K; (try simp only [Act.put, List.setIfInBounds_toArray, List.set_cons_zero, List.set_cons_succ]))
        (refine plan_keep rfl rfl (by rfl) (fun K hK => ?_); go_simp)
        (refine hK _ _ (by exact (by repeat' (first | (with_reducible refine bset ?_ ?_) | (with_reducible exact Below.refl _ _) | (with_reducible assumption) | (with_reducible refine bdrewN ?_ _) | (with_reducible refine bdrew ?_) | (with_reducible refine balloc0 ?_) | (with_reducible refine balloc ?_ ?_) | (with_reducible apply btrans0; rotate_left; with_reducible assumption) | (with_reducible apply btrans; rotate_left; with_reducible assumption) | exact Below.refl _ _ | assumption | (apply btrans0; rotate_left; assumption) | (apply btrans; rotate_left; assumption) | (simp; done) | omega | (simp; omega)))) ?_; clear hK K; (try simp only [Act.put, List.setIfInBounds_toArray, List.set_cons_zero, List.set_cons_succ]))
        (refine plan_late rfl rfl (by rfl) (fun K hK => ?_); go_simp)
        (refine hK _ _ ?_; clear hK K; (try simp only [Act.put, List.setIfInBounds_toArray, List.set_cons_zero, List.set_cons_succ]))
        refine plan_done ?_
        have q3 : w.heap.size < w2.heap.size + 1 + 1 := by omega
        have q4 : w.heap.size < w2.heap.size + 1 := by omega
        go_wp2_with fail
        refine (size_any ⟨b0, b1, b2, b3, b4, b5, b6, b7, b8, b9, (x :: l), pl ++ more⟩ _ _ (HR.out.below' (by repeat' (first | (with_reducible refine bset ?_ ?_) | (with_reducible exact Below.refl _ _) | (with_reducible assumption) | (with_reducible refine bdrewN ?_ _) | (with_reducible refine bdrew ?_) | (with_reducible refine balloc0 ?_) | (with_reducible refine balloc ?_ ?_) | (with_reducible apply btrans0; rotate_left; with_reducible assumption) | (with_reducible apply btrans; rotate_left; with_reducible assumption) | exact Below.refl _ _ | assumption | (apply btrans0; rotate_left; assumption) | (apply btrans; rotate_left; assumption) | (simp; done) | omega | (simp; omega)))) HFL.out).mono ?_
        rw [HM.out, HFC.out]
        rintro e w3 ⟨rfl, hb3⟩
        obtain ⟨k3, f3⟩ := bcell hb3
        have z3_0 : w.heap.size < w3.heap.size := by have := hb3.size; (try simp at this); omega
        have z3_1 : w2.heap.size < w3.heap.size := by have := hb3.size; (try simp at this); omega
        have z3_2 : w2.heap.size + 1 < w3.heap.size := by have := hb3.size; (try simp at this); omega
        have XS3 : w3.heap[w2.heap.size + 1]? = some (.cells (bunC ⟨b0, b1, b2, b3, b4, b5, b6, b7, b8, b9, (x :: l), pl⟩ (.slice (some ⟨bb, o, none⟩) (l.length + 1) uc)).toArray 28 (0, 0)) := (hb3.block _ (by simp; try omega)).trans (by exact heap_new' (by simp))
        have cS := fun o => cellB XS3 o
        have fS := fun o => frozenB XS3 o
        simp only [bunC] at cS
        by_cases hF : F = 0
        · have hF1 : (F == 0) = true := beq_iff_eq.2 hF
          have hM1 : ¬ M ≤ N := by have := HLT.out hF; omega
          clear hF
          go_wp2_with fail
          refine (size_any ⟨b0, b1, b2, b3, b4, b5, b6, b7, b8, b9, l, pl⟩ _ _ (HTL.out.below' (by repeat' (first | (with_reducible refine bset ?_ ?_) | (with_reducible exact Below.refl _ _) | (with_reducible assumption) | (with_reducible refine bdrewN ?_ _) | (with_reducible refine bdrew ?_) | (with_reducible refine balloc0 ?_) | (with_reducible refine balloc ?_ ?_) | (with_reducible apply btrans0; rotate_left; with_reducible assumption) | (with_reducible apply btrans; rotate_left; with_reducible assumption) | exact Below.refl _ _ | assumption | (apply btrans0; rotate_left; assumption) | (apply btrans; rotate_left; assumption) | (simp; done) | omega | (simp; omega)))) HFT.out).mono ?_
          rw [HS2.out, HC2.out]
          rintro e w6 ⟨rfl, hb6⟩
          obtain ⟨k6, f6⟩ := bcell hb6
          go_wp2_with fail
          refine (awake_any _).mono ?_
          rintro e w99 ⟨rfl, hb99⟩
          go_wp2
          go_ret
          exact ⟨rfl, (by repeat' (first | (with_reducible refine bset ?_ ?_) | (with_reducible exact Below.refl _ _) | (with_reducible assumption) | (with_reducible refine bdrewN ?_ _) | (with_reducible refine bdrew ?_) | (with_reducible refine balloc0 ?_) | (with_reducible refine balloc ?_ ?_) | (with_reducible apply btrans0; rotate_left; with_reducible assumption) | (with_reducible apply btrans; rotate_left; with_reducible assumption) | exact Below.refl _ _ | assumption | (apply btrans0; rotate_left; assumption) | (apply btrans; rotate_left; assumption) | (simp; done) | omega | (simp; omega)))⟩
        · have hF1 : (F == 0) = false := beq_eq_false_iff_ne.2 hF
          clear hF
          go_wp2_with fail
          refine (size_any ⟨b0, b1, b2, b3, b4, b5, b6, b7, b8, b9, l, pl⟩ _ _ (HTL.out.below' (by repeat' (first | (with_reducible refine bset ?_ ?_) | (with_reducible exact Below.refl _ _) | (with_reducible assumption) | (with_reducible refine bdrewN ?_ _) | (with_reducible refine bdrew ?_) | (with_reducible refine balloc0 ?_) | (with_reducible refine balloc ?_ ?_) | (with_reducible apply btrans0; rotate_left; with_reducible assumption) | (with_reducible apply btrans; rotate_left; with_reducible assumption) | exact Below.refl _ _ | assumption | (apply btrans0; rotate_left; assumption) | (apply btrans; rotate_left; assumption) | (simp; done) | omega | (simp; omega)))) HFT.out).mono ?_
          rw [HS2.out, HC2.out]
          rintro e w6 ⟨rfl, hb6⟩
          obtain ⟨k6, f6⟩ := bcell hb6
          go_wp2_with fail
          refine (awake_any _).mono ?_
          rintro e w99 ⟨rfl, hb99⟩
          go_wp2
          go_ret
          exact ⟨rfl, (by repeat' (first | (with_reducible refine bset ?_ ?_) | (with_reducible exact Below.refl _ _) | (with_reducible assumption) | (with_reducible refine bdrewN ?_ _) | (with_reducible refine bdrew ?_) | (with_reducible refine balloc0 ?_) | (with_reducible refine balloc ?_ ?_) | (with_reducible apply btrans0; rotate_left; with_reducible assumption) | (with_reducible apply btrans; rotate_left; with_reducible assumption) | exact Below.refl _ _ | assumption | (apply btrans0; rotate_left; assumption) | (apply btrans; rotate_left; assumption) | (simp; done) | omega | (simp; omega)))⟩
      · (refine fork_op rfl (by rfl) (fun K hK => ?_); go_simp)
        (refine hK _ _ (by exact (by repeat' (first | (with_reducible refine bset ?_ ?_) | (with_reducible exact Below.refl _ _) | (with_reducible assumption) | (with_reducible refine bdrewN ?_ _) | (with_reducible refine bdrew ?_) | (with_reducible refine balloc0 ?_) | (with_reducible refine balloc ?_ ?_) | (with_reducible apply btrans0; rotate_left; with_reducible assumption) | (with_reducible apply btrans; rotate_left; with_reducible assumption) | exact Below.refl _ _ | assumption | (apply btrans0; rotate_left; assumption) | (apply btrans; rotate_left; assumption) | (simp; done) | omega | (simp; omega)))) ?_; clear hK K; (try simp only [Act.put, List.setIfInBounds_toArray, List.set_cons_zero, List.set_cons_succ]))
        (refine plan_keep rfl rfl (by rfl) (fun K hK => ?_); go_simp)
        (refine hK _ _ (by exact (by repeat' (first | (with_reducible refine bset ?_ ?_) | (with_reducible exact Below.refl _ _) | (with_reducible assumption) | (with_reducible refine bdrewN ?_ _) | (with_reducible refine bdrew ?_) | (with_reducible refine balloc0 ?_) | (with_reducible refine balloc ?_ ?_) | (with_reducible apply btrans0; rotate_left; with_reducible assumption) | (with_reducible apply btrans; rotate_left; with_reducible assumption) | exact Below.refl _ _ | assumption | (apply btrans0; rotate_left; assumption) | (apply btrans; rotate_left; assumption) | (simp; done) | omega | (simp; omega)))) ?_; clear hK K; (try simp only [Act.put, List.setIfInBounds_toArray, List.set_cons_zero, List.set_cons_succ]))
        (refine plan_keep rfl rfl (by rfl) (fun K hK => ?_); go_simp)
        (refine hK _ _ (by exact (by repeat' (first | (with_reducible refine bset ?_ ?_) | (with_reducible exact Below.refl _ _) | (with_reducible assumption) | (with_reducible refine bdrewN ?_ _) | (with_reducible refine bdrew ?_) | (with_reducible refine balloc0 ?_) | (with_reducible refine balloc ?_ ?_) | (with_reducible apply btrans0; rotate_left; with_reducible assumption) | (with_reducible apply btrans; rotate_left; with_reducible assumption) | exact Below.refl _ _ | assumption | (apply btrans0; rotate_left; assumption) | (apply btrans; rotate_left; assumption) | (simp; done) | omega | (simp; omega)))) ?_; clear hK K; (try simp only [Act.put, List.setIfInBounds_toArray, List.set_cons_zero, List.set_cons_succ]))
        (refine plan_late rfl rfl (by rfl) (fun K hK => ?_); go_simp)
        (refine hK _ _ ?_; clear hK K; (try simp only [Act.put, List.setIfInBounds_toArray, List.set_cons_zero, List.set_cons_succ]))
        refine plan_done ?_
        have q3 : w.heap.size < w2.heap.size + 1 + 1 := by omega
        have q4 : w.heap.size < w2.heap.size + 1 := by omega
        go_wp2_with fail
        refine (size_any ⟨b0, b1, b2, b3, b4, b5, b6, b7, b8, b9, (x :: l), pl ++ more⟩ _ _ (HR.out.below' (by repeat' (first | (with_reducible refine bset ?_ ?_) | (with_reducible exact Below.refl _ _) | (with_reducible assumption) | (with_reducible refine bdrewN ?_ _) | (with_reducible refine bdrew ?_) | (with_reducible refine balloc0 ?_) | (with_reducible refine balloc ?_ ?_) | (with_reducible apply btrans0; rotate_left; with_reducible assumption) | (with_reducible apply btrans; rotate_left; with_reducible assumption) | exact Below.refl _ _ | assumption | (apply btrans0; rotate_left; assumption) | (apply btrans; rotate_left; assumption) | (simp; done) | omega | (simp; omega)))) HFL.out).mono ?_
        rw [HM.out, HFC.out]
        rintro e w3 ⟨rfl, hb3⟩
        obtain ⟨k3, f3⟩ := bcell hb3
        have z3_0 : w.heap.size < w3.heap.size := by have := hb3.size; (try simp at this); omega
        have z3_1 : w2.heap.size < w3.heap.size := by have := hb3.size; (try simp at this); omega
        have z3_2 : w2.heap.size + 1 < w3.heap.size := by have := hb3.size; (try simp at this); omega
        have XS3 : w3.heap[w2.heap.size]? = some (.cells (bunC ⟨b0, b1, b2, b3, b4, b5, b6, b7, b8, b9, (x :: l), pl⟩ (.slice (some ⟨bb, o, none⟩) (l.length + 1) uc)).toArray 28 (0, 0)) := (hb3.block _ (by simp; try omega)).trans (by exact (Below.heap_alloc _ _ _ (by simp)).trans heap_new)
        have cS := fun o => cellB XS3 o
        have fS := fun o => frozenB XS3 o
        simp only [bunC] at cS
        by_cases hF : F = 0
        · have hF1 : (F == 0) = true := beq_iff_eq.2 hF
          have hM1 : ¬ M ≤ N := by have := HLT.out hF; omega
          clear hF
          go_wp2_with fail
          refine (size_any ⟨b0, b1, b2, b3, b4, b5, b6, b7, b8, b9, l, pl⟩ _ _ (HTL.out.below' (by repeat' (first | (with_reducible refine bset ?_ ?_) | (with_reducible exact Below.refl _ _) | (with_reducible assumption) | (with_reducible refine bdrewN ?_ _) | (with_reducible refine bdrew ?_) | (with_reducible refine balloc0 ?_) | (with_reducible refine balloc ?_ ?_) | (with_reducible apply btrans0; rotate_left; with_reducible assumption) | (with_reducible apply btrans; rotate_left; with_reducible assumption) | exact Below.refl _ _ | assumption | (apply btrans0; rotate_left; assumption) | (apply btrans; rotate_left; assumption) | (simp; done) | omega | (simp; omega)))) HFT.out).mono ?_
          rw [HS2.out, HC2.out]
          rintro e w6 ⟨rfl, hb6⟩
          obtain ⟨k6, f6⟩ := bcell hb6
          go_wp2_with fail
          refine (awake_any _).mono ?_
          rintro e w99 ⟨rfl, hb99⟩
          go_wp2
          go_ret
          exact ⟨rfl, (by repeat' (first | (with_reducible refine bset ?_ ?_) | (with_reducible exact Below.refl _ _) | (with_reducible assumption) | (with_reducible refine bdrewN ?_ _) | (with_reducible refine bdrew ?_) | (with_reducible refine balloc0 ?_) | (with_reducible refine balloc ?_ ?_) | (with_reducible apply btrans0; rotate_left; with_reducible assumption) | (with_reducible apply btrans; rotate_left; with_reducible assumption) | exact Below.refl _ _ | assumption | (apply btrans0; rotate_left; assumption) | (apply btrans; rotate_left; assumption) | (simp; done) | omega | (simp; omega)))⟩
        · have hF1 : (F == 0) = false := beq_eq_false_iff_ne.2 hF
          clear hF
          go_wp2_with fail
          refine (size_any ⟨b0, b1, b2, b3, b4, b5, b6, b7, b8, b9, l, pl⟩ _ _ (HTL.out.below' (by repeat' (first | (with_reducible refine bset ?_ ?_) | (with_reducible exact Below.refl _ _) | (with_reducible assumption) | (with_reducible refine bdrewN ?_ _) | (with_reducible refine bdrew ?_) | (with_reducible refine balloc0 ?_) | (with_reducible refine balloc ?_ ?_) | (with_reducible apply btrans0; rotate_left; with_reducible assumption) | (with_reducible apply btrans; rotate_left; with_reducible assumption) | exact Below.refl _ _ | assumption | (apply btrans0; rotate_left; assumption) | (apply btrans; rotate_left; assumption) | (simp; done) | omega | (simp; omega)))) HFT.out).mono ?_
          rw [HS2.out, HC2.out]
          rintro e w6 ⟨rfl, hb6⟩
          obtain ⟨k6, f6⟩ := bcell hb6
          go_wp2_with fail
          refine (awake_any _).mono ?_
          rintro e w99 ⟨rfl, hb99⟩
          go_wp2
          go_ret
          exact ⟨rfl, (by repeat' (first | (with_reducible refine bset ?_ ?_) | (with_reducible exact Below.refl _ _) | (with_reducible assumption) | (with_reducible refine bdrewN ?_ _) | (with_reducible refine bdrew ?_) | (with_reducible refine balloc0 ?_) | (with_reducible refine balloc ?_ ?_) | (with_reducible apply btrans0; rotate_left; with_reducible assumption) | (with_reducible apply btrans; rotate_left; with_reducible assumption) | exact Below.refl _ _ | assumption | (apply btrans0; rotate_left; assumption) | (apply btrans; rotate_left; assumption) | (simp; done) | omega | (simp; omega)))⟩

set_option maxRecDepth 100000 in
theorem lifted (os : Os) (started : os.Started) (H : Type) (enc : TypeId × Value → H) :
    ReturnsInHanded {} Try.checked os 8 .any (Rows.bundleSizesSpec.pre6 enc Try.prog Try.f8 Rows.bundleSizesRow.domain false) (Rows.bundleSizesSpec.post enc Try.prog Try.f8 false true false false) := by
  refine returnsInHanded_of_change (C := Try.checked) own started (by kernel_rfl) Try.func8
    (ChangeSpec.witness6 (enc := enc) (C := Try.checked) false ⟨#[], #[.agg #[.int .i64 0, .int .i64 0, .int .i64 0, .int .i64 0, .int .i64 0, .int .i64 0, .int .i64 0, .int .i64 0, .int .i64 0, .int .i64 0, .slice none 0 0, .string (B [])], .string (B [])], []⟩ 8 (by kernel_rfl) (by kernel_rfl) (by kernel_rfl) (by kernel_rfl)) ?_
  intro W base args ds gs before hval0 hW hcnd _
  have hval : ∀ (j : Nat) t v, Try.f8.params[j]? = some t → args[j]? = some v → Value.okWide Try.prog W .any base t v := hval0
  have hW' := hW
  obtain ⟨p, q, hA0, hV, rfl, hfz, hnd⟩ := hW
  have hA : DataW.TrodAll enc Try.prog W 0 (fun _ => true) true Try.f8.params.toList args.toList ds p := hA0
  rw [Try.params8] at hA hval
  obtain ⟨v0, vs0, d0, ds0, p0, q0, hargs, rfl, rfl, h0, r0⟩ := trodAll_cons hA
  obtain ⟨v1, vs1, d1, ds1, p1, q1, rfl, rfl, rfl, h1, r1⟩ := trodAll_cons r0
  obtain ⟨rfl, rfl, rfl⟩ := trodAll_nil r1
  obtain rfl : args = #[v0, v1] := by cases args; simp_all
  obtain ⟨x0, u0, rfl, hr0, hf0⟩ := open_bun (hval 0 28 v0 rfl rfl) h0
  obtain ⟨x1, rfl, hs1⟩ := open_str_arg (hval 1 9 v1 rfl rfl) h1
  refine (walk x0 u0 x1 W hr0 hf0 hs1).mono fun e W' ⟨he, hB⟩ => ?_
  subst he
  refine ⟨_, rfl, law_post (by kernel_rfl) (by kernel_rfl) rfl Try.underlying4 rfl ?_ hW' hB⟩
  intro es hes
  match es, hes with
  | [_, _], _ => rfl

theorem proved : Rows.BundleSizesSaid :=
  OpenClaim.holds_of_wide 8 Try.f8 rfl rfl rfl rfl rfl rfl rfl ⟨rfl, rfl, rfl, rfl, rfl⟩ rfl rfl rfl rfl rfl (by kernel_rfl) Try.func8 (by kernel_rfl)
    (of_decide_eq_true (by kernel_rfl)) (by unfold Func.isWrapper; first | (rw [if_pos (by decide +kernel)]; kernel_rfl) | (rw [if_neg (by decide +kernel)]; exact ⟨rfl, rfl⟩))
    (fun os started H enc _ => lifted os started H enc)
#print axioms proved
end Go.Proofs.Ythedoidpapodgaa.bundleSizes
