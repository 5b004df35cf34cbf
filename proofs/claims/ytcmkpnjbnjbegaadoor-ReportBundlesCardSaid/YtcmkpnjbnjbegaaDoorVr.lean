/- Layer 20 (report): the reference's Wanted; the law's same. -/
import Derived.Test.YtcmkpnjbnjbegaaDoorVq
set_option linter.unusedVariables false
set_option linter.unusedSimpArgs false
namespace Go.Proofs.YtcmkpnjbnjbegaaDoor
open Go Go.RowKit
attribute [local go_sem] B_getElem B_size B_app B_extract B_get B_toList
theorem and_more : ∀ n : Fin 128, (bits .and .i64 (n.val : Int) 8 != 0) = hasF (n.val : Int) 8 ∧ (bits .and .i64 (n.val : Int) 16 != 0) = hasF (n.val : Int) 16 ∧ (bits .and .i64 (n.val : Int) 32 != 0) = hasF (n.val : Int) 32 ∧ (bits .and .i64 (n.val : Int) 1 != 0) = hasF (n.val : Int) 1 ∧ (bits .and .i64 (n.val : Int) 0 != 0) = false := by decide +kernel
theorem want_cases {b : Bun} {kind : Int} (hE : chkE b = 0) (hp : hasF b.flags 4 = false) :
    wantB b kind = if kind = 1 ∨ kind = 2 then hasF b.flags 8 else if kind = 3 then hasF b.flags 16 else if kind = 4 then hasF b.flags 32 else if kind = 5 ∨ kind = 6 then hasF b.flags 1 else false := by
  obtain ⟨f1, f2⟩ := chk_flags hE
  obtain ⟨f, hf⟩ : ∃ f : Nat, b.flags = f := ⟨b.flags.toNat, by omega⟩
  obtain ⟨m1, m2, m3, m4, m5⟩ := and_more ⟨f, by omega⟩
  simp only at m1 m2 m3 m4 m5
  unfold wantB
  rw [hE, hp]
  rw [hf]
  by_cases k : 0 ≤ kind ∧ kind < 7
  · rw [decide_eq_true k]
    obtain ⟨k0, k1⟩ := k
    rcases (show kind = 0 ∨ kind = 1 ∨ kind = 2 ∨ kind = 3 ∨ kind = 4 ∨ kind = 5 ∨ kind = 6 by omega) with rfl | rfl | rfl | rfl | rfl | rfl | rfl
    · simpa [maskS] using m5
    · simpa [maskS] using m1
    · simpa [maskS] using m1
    · simpa [maskS] using m2
    · simpa [maskS] using m3
    · simpa [maskS] using m4
    · simpa [maskS] using m4
  · rw [decide_eq_false k, if_neg (by omega), if_neg (by omega), if_neg (by omega), if_neg (by omega)]
    rfl
set_option maxRecDepth 100000 in
set_option maxHeartbeats 4000000 in
theorem rwanted_any (b : Bun) (u : Value) (kind : Int) (w : World) (h : RBlks w w.heap.size u b.blocks) (hf : Fits b) :
    Calls Tryd.prog 26 #[.agg (bunC b u).toArray, .int .i64 kind] w fun e w' => e = .returned (.bool (wantB b kind)) ∧ Below w.heap.size w w' := by
  have HF := Lib.hid hf
  have HR := Lib.hid h
  obtain ⟨a, c, rfl, h1, h2, h3, h4⟩ := h
  clear h1 h2 h3 h4 hf
  obtain ⟨E, hE⟩ : ∃ q, chkE b = q := ⟨_, rfl⟩
  have HE := Lib.hid hE
  by_cases z : E = 0
  case neg =>
    have z' : (E != 0) = true := by rw [bne_iff_ne]; exact z
    have e : wantB b kind = false := by unfold wantB; rw [hE, decide_eq_false z, Bool.false_and, Bool.and_false]
    rw [e]
    clear e z hE
    go_enter Tryd.func26, Tryd.ntmps26
    simp only [bunC]
    go_wp2_with fail
    refine (rcheck_any b _ _ (HR.out.below' (by repeat' (first | (with_reducible refine bset ?_ ?_) | (with_reducible exact Below.refl _ _) | (with_reducible assumption) | (with_reducible refine bdrewN ?_ _) | (with_reducible refine bdrew ?_) | (with_reducible refine balloc0 ?_) | (with_reducible refine balloc ?_ ?_) | (with_reducible apply btrans0; rotate_left; with_reducible assumption) | (with_reducible apply btrans; rotate_left; with_reducible assumption) | exact Below.refl _ _ | assumption | (apply btrans0; rotate_left; assumption) | (apply btrans; rotate_left; assumption) | (simp; done) | omega | (simp; omega)))) HF.out).mono ?_
    rw [HE.out]
    rintro e w1 ⟨rfl, hb1⟩
    have hB1 : Below w.heap.size w w1 := (by repeat' (first | (with_reducible refine bset ?_ ?_) | (with_reducible exact Below.refl _ _) | (with_reducible assumption) | (with_reducible refine bdrewN ?_ _) | (with_reducible refine bdrew ?_) | (with_reducible refine balloc0 ?_) | (with_reducible refine balloc ?_ ?_) | (with_reducible apply btrans0; rotate_left; with_reducible assumption) | (with_reducible apply btrans; rotate_left; with_reducible assumption) | exact Below.refl _ _ | assumption | (apply btrans0; rotate_left; assumption) | (apply btrans; rotate_left; assumption) | (simp; done) | omega | (simp; omega)))
    have z1 : w.heap.size < w1.heap.size := by have := hb1.size; simp at this; omega
    have A1 : w1.heap[w.heap.size]? = some (.cells (bunC b (.slice a b.blocks.length c)).toArray 36 (0, 0)) := (hb1.block _ (by simp)).trans heap_new
    have ca := fun o => cellB A1 o
    simp only [bunC] at ca
    have HA1 := Lib.hid A1
    obtain ⟨k1, f1⟩ := bcell hb1
    clear A1 hb1
    go_wp2
    go_ret
    exact ⟨rfl, (by repeat' (first | (with_reducible refine bset ?_ ?_) | (with_reducible exact Below.refl _ _) | (with_reducible assumption) | (with_reducible refine bdrewN ?_ _) | (with_reducible refine bdrew ?_) | (with_reducible refine balloc0 ?_) | (with_reducible refine balloc ?_ ?_) | (with_reducible apply btrans0; rotate_left; with_reducible assumption) | (with_reducible apply btrans; rotate_left; with_reducible assumption) | exact Below.refl _ _ | assumption | (apply btrans0; rotate_left; assumption) | (apply btrans; rotate_left; assumption) | (simp; done) | omega | (simp; omega)))⟩
  subst z
  obtain ⟨V1, V2⟩ := chk_flags hE
  obtain ⟨p, hp⟩ : ∃ q, hasF b.flags 4 = q := ⟨_, rfl⟩
  have HP := Lib.hid hp
  cases p with
  | true =>
    have e : wantB b kind = false := by unfold wantB; rw [hp]; simp
    rw [e]
    clear e hE hp
    go_enter Tryd.func26, Tryd.ntmps26
    simp only [bunC]
    go_wp2_with fail
    refine (rcheck_any b _ _ (HR.out.below' (by repeat' (first | (with_reducible refine bset ?_ ?_) | (with_reducible exact Below.refl _ _) | (with_reducible assumption) | (with_reducible refine bdrewN ?_ _) | (with_reducible refine bdrew ?_) | (with_reducible refine balloc0 ?_) | (with_reducible refine balloc ?_ ?_) | (with_reducible apply btrans0; rotate_left; with_reducible assumption) | (with_reducible apply btrans; rotate_left; with_reducible assumption) | exact Below.refl _ _ | assumption | (apply btrans0; rotate_left; assumption) | (apply btrans; rotate_left; assumption) | (simp; done) | omega | (simp; omega)))) HF.out).mono ?_
    rw [HE.out]
    rintro e w1 ⟨rfl, hb1⟩
    have hB1 : Below w.heap.size w w1 := (by repeat' (first | (with_reducible refine bset ?_ ?_) | (with_reducible exact Below.refl _ _) | (with_reducible assumption) | (with_reducible refine bdrewN ?_ _) | (with_reducible refine bdrew ?_) | (with_reducible refine balloc0 ?_) | (with_reducible refine balloc ?_ ?_) | (with_reducible apply btrans0; rotate_left; with_reducible assumption) | (with_reducible apply btrans; rotate_left; with_reducible assumption) | exact Below.refl _ _ | assumption | (apply btrans0; rotate_left; assumption) | (apply btrans; rotate_left; assumption) | (simp; done) | omega | (simp; omega)))
    have z1 : w.heap.size < w1.heap.size := by have := hb1.size; simp at this; omega
    have A1 : w1.heap[w.heap.size]? = some (.cells (bunC b (.slice a b.blocks.length c)).toArray 36 (0, 0)) := (hb1.block _ (by simp)).trans heap_new
    have ca := fun o => cellB A1 o
    simp only [bunC] at ca
    have HA1 := Lib.hid A1
    obtain ⟨k1, f1⟩ := bcell hb1
    clear A1 hb1
    go_wp2_with fail
    refine (brhas_any b _ 4 _ V1 V2 (by decide)).mono ?_
    rw [HP.out]
    rintro e w2 ⟨rfl, hb2⟩
    have hB2 : Below w.heap.size w w2 := (by repeat' (first | (with_reducible refine bset ?_ ?_) | (with_reducible exact Below.refl _ _) | (with_reducible assumption) | (with_reducible refine bdrewN ?_ _) | (with_reducible refine bdrew ?_) | (with_reducible refine balloc0 ?_) | (with_reducible refine balloc ?_ ?_) | (with_reducible apply btrans0; rotate_left; with_reducible assumption) | (with_reducible apply btrans; rotate_left; with_reducible assumption) | exact Below.refl _ _ | assumption | (apply btrans0; rotate_left; assumption) | (apply btrans; rotate_left; assumption) | (simp; done) | omega | (simp; omega)))
    have z2 : w.heap.size < w2.heap.size := by have := hb2.size; omega
    have A2 := (hb2.block _ z1).trans HA1.out
    clear ca
    have ca := fun o => cellB A2 o
    simp only [bunC] at ca
    obtain ⟨k2, f2⟩ := bcell hb2
    clear A2 hb2
    go_wp2
    go_ret
    exact ⟨rfl, (by repeat' (first | (with_reducible refine bset ?_ ?_) | (with_reducible exact Below.refl _ _) | (with_reducible assumption) | (with_reducible refine bdrewN ?_ _) | (with_reducible refine bdrew ?_) | (with_reducible refine balloc0 ?_) | (with_reducible refine balloc ?_ ?_) | (with_reducible apply btrans0; rotate_left; with_reducible assumption) | (with_reducible apply btrans; rotate_left; with_reducible assumption) | exact Below.refl _ _ | assumption | (apply btrans0; rotate_left; assumption) | (apply btrans; rotate_left; assumption) | (simp; done) | omega | (simp; omega)))⟩
  | false =>
    have hw := want_cases (kind := kind) hE hp
    by_cases q1 : kind = 1
    · subst q1
      obtain ⟨M, hM⟩ : ∃ q, hasF b.flags 8 = q := ⟨_, rfl⟩
      have HM := Lib.hid hM
      have e : wantB b 1 = M := by rw [hw, ← hM]; simp
      rw [e]
      clear e hw hE hp hM
      go_enter Tryd.func26, Tryd.ntmps26
      simp only [bunC]
      go_wp2_with fail
      refine (rcheck_any b _ _ (HR.out.below' (by repeat' (first | (with_reducible refine bset ?_ ?_) | (with_reducible exact Below.refl _ _) | (with_reducible assumption) | (with_reducible refine bdrewN ?_ _) | (with_reducible refine bdrew ?_) | (with_reducible refine balloc0 ?_) | (with_reducible refine balloc ?_ ?_) | (with_reducible apply btrans0; rotate_left; with_reducible assumption) | (with_reducible apply btrans; rotate_left; with_reducible assumption) | exact Below.refl _ _ | assumption | (apply btrans0; rotate_left; assumption) | (apply btrans; rotate_left; assumption) | (simp; done) | omega | (simp; omega)))) HF.out).mono ?_
      rw [HE.out]
      rintro e w1 ⟨rfl, hb1⟩
      have hB1 : Below w.heap.size w w1 := (by repeat' (first | (with_reducible refine bset ?_ ?_) | (with_reducible exact Below.refl _ _) | (with_reducible assumption) | (with_reducible refine bdrewN ?_ _) | (with_reducible refine bdrew ?_) | (with_reducible refine balloc0 ?_) | (with_reducible refine balloc ?_ ?_) | (with_reducible apply btrans0; rotate_left; with_reducible assumption) | (with_reducible apply btrans; rotate_left; with_reducible assumption) | exact Below.refl _ _ | assumption | (apply btrans0; rotate_left; assumption) | (apply btrans; rotate_left; assumption) | (simp; done) | omega | (simp; omega)))
      have z1 : w.heap.size < w1.heap.size := by have := hb1.size; simp at this; omega
      have A1 : w1.heap[w.heap.size]? = some (.cells (bunC b (.slice a b.blocks.length c)).toArray 36 (0, 0)) := (hb1.block _ (by simp)).trans heap_new
      have ca := fun o => cellB A1 o
      simp only [bunC] at ca
      have HA1 := Lib.hid A1
      obtain ⟨k1, f1⟩ := bcell hb1
      clear A1 hb1
      go_wp2_with fail
      refine (brhas_any b _ 4 _ V1 V2 (by decide)).mono ?_
      rw [HP.out]
      rintro e w2 ⟨rfl, hb2⟩
      have hB2 : Below w.heap.size w w2 := (by repeat' (first | (with_reducible refine bset ?_ ?_) | (with_reducible exact Below.refl _ _) | (with_reducible assumption) | (with_reducible refine bdrewN ?_ _) | (with_reducible refine bdrew ?_) | (with_reducible refine balloc0 ?_) | (with_reducible refine balloc ?_ ?_) | (with_reducible apply btrans0; rotate_left; with_reducible assumption) | (with_reducible apply btrans; rotate_left; with_reducible assumption) | exact Below.refl _ _ | assumption | (apply btrans0; rotate_left; assumption) | (apply btrans; rotate_left; assumption) | (simp; done) | omega | (simp; omega)))
      have z2 : w.heap.size < w2.heap.size := by have := hb2.size; omega
      have A2 := (hb2.block _ z1).trans HA1.out
      clear ca
      have ca := fun o => cellB A2 o
      simp only [bunC] at ca
      obtain ⟨k2, f2⟩ := bcell hb2
      clear A2 hb2
      go_wp2_with fail
      refine (brhas_any b _ 8 _ V1 V2 (by decide)).mono ?_
      rw [HM.out]
      rintro e w3 ⟨rfl, hb3⟩
      go_wp2
      go_ret
      exact ⟨rfl, (by repeat' (first | (with_reducible refine bset ?_ ?_) | (with_reducible exact Below.refl _ _) | (with_reducible assumption) | (with_reducible refine bdrewN ?_ _) | (with_reducible refine bdrew ?_) | (with_reducible refine balloc0 ?_) | (with_reducible refine balloc ?_ ?_) | (with_reducible apply btrans0; rotate_left; with_reducible assumption) | (with_reducible apply btrans; rotate_left; with_reducible assumption) | exact Below.refl _ _ | assumption | (apply btrans0; rotate_left; assumption) | (apply btrans; rotate_left; assumption) | (simp; done) | omega | (simp; omega)))⟩
    have r1 : (kind == 1) = false := beq_eq_false_iff_ne.2 q1
    by_cases q2 : kind = 2
    · subst q2
      obtain ⟨M, hM⟩ : ∃ q, hasF b.flags 8 = q := ⟨_, rfl⟩
      have HM := Lib.hid hM
      have e : wantB b 2 = M := by rw [hw, ← hM]; simp
      rw [e]
      clear e hw hE hp hM
      go_enter Tryd.func26, Tryd.ntmps26
      simp only [bunC]
      go_wp2_with fail
      refine (rcheck_any b _ _ (HR.out.below' (by repeat' (first | (with_reducible refine bset ?_ ?_) | (with_reducible exact Below.refl _ _) | (with_reducible assumption) | (with_reducible refine bdrewN ?_ _) | (with_reducible refine bdrew ?_) | (with_reducible refine balloc0 ?_) | (with_reducible refine balloc ?_ ?_) | (with_reducible apply btrans0; rotate_left; with_reducible assumption) | (with_reducible apply btrans; rotate_left; with_reducible assumption) | exact Below.refl _ _ | assumption | (apply btrans0; rotate_left; assumption) | (apply btrans; rotate_left; assumption) | (simp; done) | omega | (simp; omega)))) HF.out).mono ?_
      rw [HE.out]
      rintro e w1 ⟨rfl, hb1⟩
      have hB1 : Below w.heap.size w w1 := (by repeat' (first | (with_reducible refine bset ?_ ?_) | (with_reducible exact Below.refl _ _) | (with_reducible assumption) | (with_reducible refine bdrewN ?_ _) | (with_reducible refine bdrew ?_) | (with_reducible refine balloc0 ?_) | (with_reducible refine balloc ?_ ?_) | (with_reducible apply btrans0; rotate_left; with_reducible assumption) | (with_reducible apply btrans; rotate_left; with_reducible assumption) | exact Below.refl _ _ | assumption | (apply btrans0; rotate_left; assumption) | (apply btrans; rotate_left; assumption) | (simp; done) | omega | (simp; omega)))
      have z1 : w.heap.size < w1.heap.size := by have := hb1.size; simp at this; omega
      have A1 : w1.heap[w.heap.size]? = some (.cells (bunC b (.slice a b.blocks.length c)).toArray 36 (0, 0)) := (hb1.block _ (by simp)).trans heap_new
      have ca := fun o => cellB A1 o
      simp only [bunC] at ca
      have HA1 := Lib.hid A1
      obtain ⟨k1, f1⟩ := bcell hb1
      clear A1 hb1
      go_wp2_with fail
      refine (brhas_any b _ 4 _ V1 V2 (by decide)).mono ?_
      rw [HP.out]
      rintro e w2 ⟨rfl, hb2⟩
      have hB2 : Below w.heap.size w w2 := (by repeat' (first | (with_reducible refine bset ?_ ?_) | (with_reducible exact Below.refl _ _) | (with_reducible assumption) | (with_reducible refine bdrewN ?_ _) | (with_reducible refine bdrew ?_) | (with_reducible refine balloc0 ?_) | (with_reducible refine balloc ?_ ?_) | (with_reducible apply btrans0; rotate_left; with_reducible assumption) | (with_reducible apply btrans; rotate_left; with_reducible assumption) | exact Below.refl _ _ | assumption | (apply btrans0; rotate_left; assumption) | (apply btrans; rotate_left; assumption) | (simp; done) | omega | (simp; omega)))
      have z2 : w.heap.size < w2.heap.size := by have := hb2.size; omega
      have A2 := (hb2.block _ z1).trans HA1.out
      clear ca
      have ca := fun o => cellB A2 o
      simp only [bunC] at ca
      obtain ⟨k2, f2⟩ := bcell hb2
      clear A2 hb2
      go_wp2_with fail
      refine (brhas_any b _ 8 _ V1 V2 (by decide)).mono ?_
      rw [HM.out]
      rintro e w3 ⟨rfl, hb3⟩
      go_wp2
      go_ret
      exact ⟨rfl, (by repeat' (first | (with_reducible refine bset ?_ ?_) | (with_reducible exact Below.refl _ _) | (with_reducible assumption) | (with_reducible refine bdrewN ?_ _) | (with_reducible refine bdrew ?_) | (with_reducible refine balloc0 ?_) | (with_reducible refine balloc ?_ ?_) | (with_reducible apply btrans0; rotate_left; with_reducible assumption) | (with_reducible apply btrans; rotate_left; with_reducible assumption) | exact Below.refl _ _ | assumption | (apply btrans0; rotate_left; assumption) | (apply btrans; rotate_left; assumption) | (simp; done) | omega | (simp; omega)))⟩
    have r2 : (kind == 2) = false := beq_eq_false_iff_ne.2 q2
    by_cases q3 : kind = 3
    · subst q3
      obtain ⟨M, hM⟩ : ∃ q, hasF b.flags 16 = q := ⟨_, rfl⟩
      have HM := Lib.hid hM
      have e : wantB b 3 = M := by rw [hw, ← hM]; simp
      rw [e]
      clear e hw hE hp hM
      go_enter Tryd.func26, Tryd.ntmps26
      simp only [bunC]
      go_wp2_with fail
      refine (rcheck_any b _ _ (HR.out.below' (by repeat' (first | (with_reducible refine bset ?_ ?_) | (with_reducible exact Below.refl _ _) | (with_reducible assumption) | (with_reducible refine bdrewN ?_ _) | (with_reducible refine bdrew ?_) | (with_reducible refine balloc0 ?_) | (with_reducible refine balloc ?_ ?_) | (with_reducible apply btrans0; rotate_left; with_reducible assumption) | (with_reducible apply btrans; rotate_left; with_reducible assumption) | exact Below.refl _ _ | assumption | (apply btrans0; rotate_left; assumption) | (apply btrans; rotate_left; assumption) | (simp; done) | omega | (simp; omega)))) HF.out).mono ?_
      rw [HE.out]
      rintro e w1 ⟨rfl, hb1⟩
      have hB1 : Below w.heap.size w w1 := (by repeat' (first | (with_reducible refine bset ?_ ?_) | (with_reducible exact Below.refl _ _) | (with_reducible assumption) | (with_reducible refine bdrewN ?_ _) | (with_reducible refine bdrew ?_) | (with_reducible refine balloc0 ?_) | (with_reducible refine balloc ?_ ?_) | (with_reducible apply btrans0; rotate_left; with_reducible assumption) | (with_reducible apply btrans; rotate_left; with_reducible assumption) | exact Below.refl _ _ | assumption | (apply btrans0; rotate_left; assumption) | (apply btrans; rotate_left; assumption) | (simp; done) | omega | (simp; omega)))
      have z1 : w.heap.size < w1.heap.size := by have := hb1.size; simp at this; omega
      have A1 : w1.heap[w.heap.size]? = some (.cells (bunC b (.slice a b.blocks.length c)).toArray 36 (0, 0)) := (hb1.block _ (by simp)).trans heap_new
      have ca := fun o => cellB A1 o
      simp only [bunC] at ca
      have HA1 := Lib.hid A1
      obtain ⟨k1, f1⟩ := bcell hb1
      clear A1 hb1
      go_wp2_with fail
      refine (brhas_any b _ 4 _ V1 V2 (by decide)).mono ?_
      rw [HP.out]
      rintro e w2 ⟨rfl, hb2⟩
      have hB2 : Below w.heap.size w w2 := (by repeat' (first | (with_reducible refine bset ?_ ?_) | (with_reducible exact Below.refl _ _) | (with_reducible assumption) | (with_reducible refine bdrewN ?_ _) | (with_reducible refine bdrew ?_) | (with_reducible refine balloc0 ?_) | (with_reducible refine balloc ?_ ?_) | (with_reducible apply btrans0; rotate_left; with_reducible assumption) | (with_reducible apply btrans; rotate_left; with_reducible assumption) | exact Below.refl _ _ | assumption | (apply btrans0; rotate_left; assumption) | (apply btrans; rotate_left; assumption) | (simp; done) | omega | (simp; omega)))
      have z2 : w.heap.size < w2.heap.size := by have := hb2.size; omega
      have A2 := (hb2.block _ z1).trans HA1.out
      clear ca
      have ca := fun o => cellB A2 o
      simp only [bunC] at ca
      obtain ⟨k2, f2⟩ := bcell hb2
      clear A2 hb2
      go_wp2_with fail
      refine (brhas_any b _ 16 _ V1 V2 (by decide)).mono ?_
      rw [HM.out]
      rintro e w3 ⟨rfl, hb3⟩
      go_wp2
      go_ret
      exact ⟨rfl, (by repeat' (first | (with_reducible refine bset ?_ ?_) | (with_reducible exact Below.refl _ _) | (with_reducible assumption) | (with_reducible refine bdrewN ?_ _) | (with_reducible refine bdrew ?_) | (with_reducible refine balloc0 ?_) | (with_reducible refine balloc ?_ ?_) | (with_reducible apply btrans0; rotate_left; with_reducible assumption) | (with_reducible apply btrans; rotate_left; with_reducible assumption) | exact Below.refl _ _ | assumption | (apply btrans0; rotate_left; assumption) | (apply btrans; rotate_left; assumption) | (simp; done) | omega | (simp; omega)))⟩
    have r3 : (kind == 3) = false := beq_eq_false_iff_ne.2 q3
    by_cases q4 : kind = 4
    · subst q4
      obtain ⟨M, hM⟩ : ∃ q, hasF b.flags 32 = q := ⟨_, rfl⟩
      have HM := Lib.hid hM
      have e : wantB b 4 = M := by rw [hw, ← hM]; simp
      rw [e]
      clear e hw hE hp hM
      go_enter Tryd.func26, Tryd.ntmps26
      simp only [bunC]
      go_wp2_with fail
      refine (rcheck_any b _ _ (HR.out.below' (by repeat' (first | (with_reducible refine bset ?_ ?_) | (with_reducible exact Below.refl _ _) | (with_reducible assumption) | (with_reducible refine bdrewN ?_ _) | (with_reducible refine bdrew ?_) | (with_reducible refine balloc0 ?_) | (with_reducible refine balloc ?_ ?_) | (with_reducible apply btrans0; rotate_left; with_reducible assumption) | (with_reducible apply btrans; rotate_left; with_reducible assumption) | exact Below.refl _ _ | assumption | (apply btrans0; rotate_left; assumption) | (apply btrans; rotate_left; assumption) | (simp; done) | omega | (simp; omega)))) HF.out).mono ?_
      rw [HE.out]
      rintro e w1 ⟨rfl, hb1⟩
      have hB1 : Below w.heap.size w w1 := (by repeat' (first | (with_reducible refine bset ?_ ?_) | (with_reducible exact Below.refl _ _) | (with_reducible assumption) | (with_reducible refine bdrewN ?_ _) | (with_reducible refine bdrew ?_) | (with_reducible refine balloc0 ?_) | (with_reducible refine balloc ?_ ?_) | (with_reducible apply btrans0; rotate_left; with_reducible assumption) | (with_reducible apply btrans; rotate_left; with_reducible assumption) | exact Below.refl _ _ | assumption | (apply btrans0; rotate_left; assumption) | (apply btrans; rotate_left; assumption) | (simp; done) | omega | (simp; omega)))
      have z1 : w.heap.size < w1.heap.size := by have := hb1.size; simp at this; omega
      have A1 : w1.heap[w.heap.size]? = some (.cells (bunC b (.slice a b.blocks.length c)).toArray 36 (0, 0)) := (hb1.block _ (by simp)).trans heap_new
      have ca := fun o => cellB A1 o
      simp only [bunC] at ca
      have HA1 := Lib.hid A1
      obtain ⟨k1, f1⟩ := bcell hb1
      clear A1 hb1
      go_wp2_with fail
      refine (brhas_any b _ 4 _ V1 V2 (by decide)).mono ?_
      rw [HP.out]
      rintro e w2 ⟨rfl, hb2⟩
      have hB2 : Below w.heap.size w w2 := (by repeat' (first | (with_reducible refine bset ?_ ?_) | (with_reducible exact Below.refl _ _) | (with_reducible assumption) | (with_reducible refine bdrewN ?_ _) | (with_reducible refine bdrew ?_) | (with_reducible refine balloc0 ?_) | (with_reducible refine balloc ?_ ?_) | (with_reducible apply btrans0; rotate_left; with_reducible assumption) | (with_reducible apply btrans; rotate_left; with_reducible assumption) | exact Below.refl _ _ | assumption | (apply btrans0; rotate_left; assumption) | (apply btrans; rotate_left; assumption) | (simp; done) | omega | (simp; omega)))
      have z2 : w.heap.size < w2.heap.size := by have := hb2.size; omega
      have A2 := (hb2.block _ z1).trans HA1.out
      clear ca
      have ca := fun o => cellB A2 o
      simp only [bunC] at ca
      obtain ⟨k2, f2⟩ := bcell hb2
      clear A2 hb2
      go_wp2_with fail
      refine (brhas_any b _ 32 _ V1 V2 (by decide)).mono ?_
      rw [HM.out]
      rintro e w3 ⟨rfl, hb3⟩
      go_wp2
      go_ret
      exact ⟨rfl, (by repeat' (first | (with_reducible refine bset ?_ ?_) | (with_reducible exact Below.refl _ _) | (with_reducible assumption) | (with_reducible refine bdrewN ?_ _) | (with_reducible refine bdrew ?_) | (with_reducible refine balloc0 ?_) | (with_reducible refine balloc ?_ ?_) | (with_reducible apply btrans0; rotate_left; with_reducible assumption) | (with_reducible apply btrans; rotate_left; with_reducible assumption) | exact Below.refl _ _ | assumption | (apply btrans0; rotate_left; assumption) | (apply btrans; rotate_left; assumption) | (simp; done) | omega | (simp; omega)))⟩
    have r4 : (kind == 4) = false := beq_eq_false_iff_ne.2 q4
    by_cases q5 : kind = 5
    · subst q5
      obtain ⟨M, hM⟩ : ∃ q, hasF b.flags 1 = q := ⟨_, rfl⟩
      have HM := Lib.hid hM
      have e : wantB b 5 = M := by rw [hw, ← hM]; simp
      rw [e]
      clear e hw hE hp hM
      go_enter Tryd.func26, Tryd.ntmps26
      simp only [bunC]
      go_wp2_with fail
      refine (rcheck_any b _ _ (HR.out.below' (by repeat' (first | (with_reducible refine bset ?_ ?_) | (with_reducible exact Below.refl _ _) | (with_reducible assumption) | (with_reducible refine bdrewN ?_ _) | (with_reducible refine bdrew ?_) | (with_reducible refine balloc0 ?_) | (with_reducible refine balloc ?_ ?_) | (with_reducible apply btrans0; rotate_left; with_reducible assumption) | (with_reducible apply btrans; rotate_left; with_reducible assumption) | exact Below.refl _ _ | assumption | (apply btrans0; rotate_left; assumption) | (apply btrans; rotate_left; assumption) | (simp; done) | omega | (simp; omega)))) HF.out).mono ?_
      rw [HE.out]
      rintro e w1 ⟨rfl, hb1⟩
      have hB1 : Below w.heap.size w w1 := (by repeat' (first | (with_reducible refine bset ?_ ?_) | (with_reducible exact Below.refl _ _) | (with_reducible assumption) | (with_reducible refine bdrewN ?_ _) | (with_reducible refine bdrew ?_) | (with_reducible refine balloc0 ?_) | (with_reducible refine balloc ?_ ?_) | (with_reducible apply btrans0; rotate_left; with_reducible assumption) | (with_reducible apply btrans; rotate_left; with_reducible assumption) | exact Below.refl _ _ | assumption | (apply btrans0; rotate_left; assumption) | (apply btrans; rotate_left; assumption) | (simp; done) | omega | (simp; omega)))
      have z1 : w.heap.size < w1.heap.size := by have := hb1.size; simp at this; omega
      have A1 : w1.heap[w.heap.size]? = some (.cells (bunC b (.slice a b.blocks.length c)).toArray 36 (0, 0)) := (hb1.block _ (by simp)).trans heap_new
      have ca := fun o => cellB A1 o
      simp only [bunC] at ca
      have HA1 := Lib.hid A1
      obtain ⟨k1, f1⟩ := bcell hb1
      clear A1 hb1
      go_wp2_with fail
      refine (brhas_any b _ 4 _ V1 V2 (by decide)).mono ?_
      rw [HP.out]
      rintro e w2 ⟨rfl, hb2⟩
      have hB2 : Below w.heap.size w w2 := (by repeat' (first | (with_reducible refine bset ?_ ?_) | (with_reducible exact Below.refl _ _) | (with_reducible assumption) | (with_reducible refine bdrewN ?_ _) | (with_reducible refine bdrew ?_) | (with_reducible refine balloc0 ?_) | (with_reducible refine balloc ?_ ?_) | (with_reducible apply btrans0; rotate_left; with_reducible assumption) | (with_reducible apply btrans; rotate_left; with_reducible assumption) | exact Below.refl _ _ | assumption | (apply btrans0; rotate_left; assumption) | (apply btrans; rotate_left; assumption) | (simp; done) | omega | (simp; omega)))
      have z2 : w.heap.size < w2.heap.size := by have := hb2.size; omega
      have A2 := (hb2.block _ z1).trans HA1.out
      clear ca
      have ca := fun o => cellB A2 o
      simp only [bunC] at ca
      obtain ⟨k2, f2⟩ := bcell hb2
      clear A2 hb2
      go_wp2_with fail
      refine (brhas_any b _ 1 _ V1 V2 (by decide)).mono ?_
      rw [HM.out]
      rintro e w3 ⟨rfl, hb3⟩
      go_wp2
      go_ret
      exact ⟨rfl, (by repeat' (first | (with_reducible refine bset ?_ ?_) | (with_reducible exact Below.refl _ _) | (with_reducible assumption) | (with_reducible refine bdrewN ?_ _) | (with_reducible refine bdrew ?_) | (with_reducible refine balloc0 ?_) | (with_reducible refine balloc ?_ ?_) | (with_reducible apply btrans0; rotate_left; with_reducible assumption) | (with_reducible apply btrans; rotate_left; with_reducible assumption) | exact Below.refl _ _ | assumption | (apply btrans0; rotate_left; assumption) | (apply btrans; rotate_left; assumption) | (simp; done) | omega | (simp; omega)))⟩
    have r5 : (kind == 5) = false := beq_eq_false_iff_ne.2 q5
    by_cases q6 : kind = 6
    · subst q6
      obtain ⟨M, hM⟩ : ∃ q, hasF b.flags 1 = q := ⟨_, rfl⟩
      have HM := Lib.hid hM
      have e : wantB b 6 = M := by rw [hw, ← hM]; simp
      rw [e]
      clear e hw hE hp hM
      go_enter Tryd.func26, Tryd.ntmps26
      simp only [bunC]
      go_wp2_with fail
      refine (rcheck_any b _ _ (HR.out.below' (by repeat' (first | (with_reducible refine bset ?_ ?_) | (with_reducible exact Below.refl _ _) | (with_reducible assumption) | (with_reducible refine bdrewN ?_ _) | (with_reducible refine bdrew ?_) | (with_reducible refine balloc0 ?_) | (with_reducible refine balloc ?_ ?_) | (with_reducible apply btrans0; rotate_left; with_reducible assumption) | (with_reducible apply btrans; rotate_left; with_reducible assumption) | exact Below.refl _ _ | assumption | (apply btrans0; rotate_left; assumption) | (apply btrans; rotate_left; assumption) | (simp; done) | omega | (simp; omega)))) HF.out).mono ?_
      rw [HE.out]
      rintro e w1 ⟨rfl, hb1⟩
      have hB1 : Below w.heap.size w w1 := (by repeat' (first | (with_reducible refine bset ?_ ?_) | (with_reducible exact Below.refl _ _) | (with_reducible assumption) | (with_reducible refine bdrewN ?_ _) | (with_reducible refine bdrew ?_) | (with_reducible refine balloc0 ?_) | (with_reducible refine balloc ?_ ?_) | (with_reducible apply btrans0; rotate_left; with_reducible assumption) | (with_reducible apply btrans; rotate_left; with_reducible assumption) | exact Below.refl _ _ | assumption | (apply btrans0; rotate_left; assumption) | (apply btrans; rotate_left; assumption) | (simp; done) | omega | (simp; omega)))
      have z1 : w.heap.size < w1.heap.size := by have := hb1.size; simp at this; omega
      have A1 : w1.heap[w.heap.size]? = some (.cells (bunC b (.slice a b.blocks.length c)).toArray 36 (0, 0)) := (hb1.block _ (by simp)).trans heap_new
      have ca := fun o => cellB A1 o
      simp only [bunC] at ca
      have HA1 := Lib.hid A1
      obtain ⟨k1, f1⟩ := bcell hb1
      clear A1 hb1
      go_wp2_with fail
      refine (brhas_any b _ 4 _ V1 V2 (by decide)).mono ?_
      rw [HP.out]
      rintro e w2 ⟨rfl, hb2⟩
      have hB2 : Below w.heap.size w w2 := (by repeat' (first | (with_reducible refine bset ?_ ?_) | (with_reducible exact Below.refl _ _) | (with_reducible assumption) | (with_reducible refine bdrewN ?_ _) | (with_reducible refine bdrew ?_) | (with_reducible refine balloc0 ?_) | (with_reducible refine balloc ?_ ?_) | (with_reducible apply btrans0; rotate_left; with_reducible assumption) | (with_reducible apply btrans; rotate_left; with_reducible assumption) | exact Below.refl _ _ | assumption | (apply btrans0; rotate_left; assumption) | (apply btrans; rotate_left; assumption) | (simp; done) | omega | (simp; omega)))
      have z2 : w.heap.size < w2.heap.size := by have := hb2.size; omega
      have A2 := (hb2.block _ z1).trans HA1.out
      clear ca
      have ca := fun o => cellB A2 o
      simp only [bunC] at ca
      obtain ⟨k2, f2⟩ := bcell hb2
      clear A2 hb2
      go_wp2_with fail
      refine (brhas_any b _ 1 _ V1 V2 (by decide)).mono ?_
      rw [HM.out]
      rintro e w3 ⟨rfl, hb3⟩
      go_wp2
      go_ret
      exact ⟨rfl, (by repeat' (first | (with_reducible refine bset ?_ ?_) | (with_reducible exact Below.refl _ _) | (with_reducible assumption) | (with_reducible refine bdrewN ?_ _) | (with_reducible refine bdrew ?_) | (with_reducible refine balloc0 ?_) | (with_reducible refine balloc ?_ ?_) | (with_reducible apply btrans0; rotate_left; with_reducible assumption) | (with_reducible apply btrans; rotate_left; with_reducible assumption) | exact Below.refl _ _ | assumption | (apply btrans0; rotate_left; assumption) | (apply btrans; rotate_left; assumption) | (simp; done) | omega | (simp; omega)))⟩
    have r6 : (kind == 6) = false := beq_eq_false_iff_ne.2 q6
    have e : wantB b kind = false := by rw [hw]; simp [q1, q2, q3, q4, q5, q6]
    rw [e]
    clear e hw hE hp q1 q2 q3 q4 q5 q6
    go_enter Tryd.func26, Tryd.ntmps26
    simp only [bunC]
    go_wp2_with fail
    refine (rcheck_any b _ _ (HR.out.below' (by repeat' (first | (with_reducible refine bset ?_ ?_) | (with_reducible exact Below.refl _ _) | (with_reducible assumption) | (with_reducible refine bdrewN ?_ _) | (with_reducible refine bdrew ?_) | (with_reducible refine balloc0 ?_) | (with_reducible refine balloc ?_ ?_) | (with_reducible apply btrans0; rotate_left; with_reducible assumption) | (with_reducible apply btrans; rotate_left; with_reducible assumption) | exact Below.refl _ _ | assumption | (apply btrans0; rotate_left; assumption) | (apply btrans; rotate_left; assumption) | (simp; done) | omega | (simp; omega)))) HF.out).mono ?_
    rw [HE.out]
    rintro e w1 ⟨rfl, hb1⟩
    have hB1 : Below w.heap.size w w1 := (by repeat' (first | (with_reducible refine bset ?_ ?_) | (with_reducible exact Below.refl _ _) | (with_reducible assumption) | (with_reducible refine bdrewN ?_ _) | (with_reducible refine bdrew ?_) | (with_reducible refine balloc0 ?_) | (with_reducible refine balloc ?_ ?_) | (with_reducible apply btrans0; rotate_left; with_reducible assumption) | (with_reducible apply btrans; rotate_left; with_reducible assumption) | exact Below.refl _ _ | assumption | (apply btrans0; rotate_left; assumption) | (apply btrans; rotate_left; assumption) | (simp; done) | omega | (simp; omega)))
    have z1 : w.heap.size < w1.heap.size := by have := hb1.size; simp at this; omega
    have A1 : w1.heap[w.heap.size]? = some (.cells (bunC b (.slice a b.blocks.length c)).toArray 36 (0, 0)) := (hb1.block _ (by simp)).trans heap_new
    have ca := fun o => cellB A1 o
    simp only [bunC] at ca
    have HA1 := Lib.hid A1
    obtain ⟨k1, f1⟩ := bcell hb1
    clear A1 hb1
    go_wp2_with fail
    refine (brhas_any b _ 4 _ V1 V2 (by decide)).mono ?_
    rw [HP.out]
    rintro e w2 ⟨rfl, hb2⟩
    have hB2 : Below w.heap.size w w2 := (by repeat' (first | (with_reducible refine bset ?_ ?_) | (with_reducible exact Below.refl _ _) | (with_reducible assumption) | (with_reducible refine bdrewN ?_ _) | (with_reducible refine bdrew ?_) | (with_reducible refine balloc0 ?_) | (with_reducible refine balloc ?_ ?_) | (with_reducible apply btrans0; rotate_left; with_reducible assumption) | (with_reducible apply btrans; rotate_left; with_reducible assumption) | exact Below.refl _ _ | assumption | (apply btrans0; rotate_left; assumption) | (apply btrans; rotate_left; assumption) | (simp; done) | omega | (simp; omega)))
    have z2 : w.heap.size < w2.heap.size := by have := hb2.size; omega
    have A2 := (hb2.block _ z1).trans HA1.out
    clear ca
    have ca := fun o => cellB A2 o
    simp only [bunC] at ca
    obtain ⟨k2, f2⟩ := bcell hb2
    clear A2 hb2
    go_wp2
    go_ret
    exact ⟨rfl, (by repeat' (first | (with_reducible refine bset ?_ ?_) | (with_reducible exact Below.refl _ _) | (with_reducible assumption) | (with_reducible refine bdrewN ?_ _) | (with_reducible refine bdrew ?_) | (with_reducible refine balloc0 ?_) | (with_reducible refine balloc ?_ ?_) | (with_reducible apply btrans0; rotate_left; with_reducible assumption) | (with_reducible apply btrans; rotate_left; with_reducible assumption) | exact Below.refl _ _ | assumption | (apply btrans0; rotate_left; assumption) | (apply btrans; rotate_left; assumption) | (simp; done) | omega | (simp; omega)))⟩
theorem seqId (a b c d e : Int) (w : World) : Sem.run Tryd.prog (Go.binOp .eql 23 (.agg #[.int .i64 a, .int .i64 b, .int .i64 c, .int .i64 d, .int .i64 e]) (.agg #[.int .i64 a, .int .i64 b, .int .i64 c, .int .i64 d, .int .i64 e])) w = .ok (.bool true) w := by
  go_simp
theorem seqEnd (a b : Int) (w : World) : Sem.run Tryd.prog (Go.binOp .eql 33 (.agg #[.int .i64 a, .int .i64 b]) (.agg #[.int .i64 a, .int .i64 b])) w = .ok (.bool true) w := by
  go_simp
attribute [local go_sem ↓] seqId seqEnd
set_option maxRecDepth 100000 in
set_option maxHeartbeats 1000000 in
theorem lsame_any (b : Bun) (u v : Value) (w : World) (h : RBlks w w.heap.size u b.blocks) (k : RBlks w w.heap.size v b.blocks) :
    Calls Tryd.prog 27 #[.agg (bunC b u).toArray, .agg (bunC b v).toArray] w (Says w) := by
  have HR := Lib.hid h
  have KR := Lib.hid k
  clear h k
  go_enter Tryd.func27, Tryd.ntmps27
  simp only [bunC]
  go_wp2_with fail
  refine (same_any b.blocks _ _ _ (HR.out.below (C := w.heap.size) (((Below.refl _ _).alloc (Nat.le_refl _) _).alloc (by simp) _) (Nat.le_refl _) (by simp; omega)) (KR.out.below (C := w.heap.size) (((Below.refl _ _).alloc (Nat.le_refl _) _).alloc (by simp) _) (Nat.le_refl _) (by simp; omega))).mono ?_
  rintro e w1 ⟨rfl, hb1⟩
  obtain ⟨k1, f1⟩ := bcell hb1
  have z1 : w.heap.size + 1 < w1.heap.size := by have := hb1.size; simp at this; omega
  have z1a : w.heap.size < w1.heap.size := by omega
  go_wp2
  go_ret
  exact ⟨by simp, (by repeat' (first | (with_reducible refine bset ?_ ?_) | (with_reducible exact Below.refl _ _) | (with_reducible assumption) | (with_reducible refine bdrewN ?_ _) | (with_reducible refine bdrew ?_) | (with_reducible refine balloc0 ?_) | (with_reducible refine balloc ?_ ?_) | (with_reducible apply btrans0; rotate_left; with_reducible assumption) | (with_reducible apply btrans; rotate_left; with_reducible assumption) | exact Below.refl _ _ | assumption | (apply btrans0; rotate_left; assumption) | (apply btrans; rotate_left; assumption) | (simp; done) | omega | (simp; omega)))⟩
end Go.Proofs.YtcmkpnjbnjbegaaDoor
