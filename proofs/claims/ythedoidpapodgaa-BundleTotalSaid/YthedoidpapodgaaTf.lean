/- Layer 13 (bundle): Expires, Expired, Compare, the program's and the reference's. -/
import Derived.Test.YthedoidpapodgaaTe
import Derived.Test.YthedoidpapodgaaJa
set_option linter.unusedVariables false
set_option linter.unusedSimpArgs false
namespace Go.Proofs.Ythedoidpapodgaa
open Go Go.RowKit
attribute [local go_sem] B_getElem B_size B_app B_extract B_get B_toList

def expS (b : Bun) : Int := if chkE b ≠ 0 then 0 else b.crt + b.life
def expdS (b : Bun) (now : Int) : Bool := decide (chkE b = 0) && decide (b.crt + b.life ≤ now)
/-- which of two bundles is sent first -/
def cmpS (a b : Bun) : Int := if chkE a ≠ 0 ∨ chkE b ≠ 0 then 0 else orL [cmpI b.prio a.prio, cmpI (expS a) (expS b), cmpL (ids a) (ids b)]
theorem exp_facts {b : Bun} (h : chkE b = 0) : 0 ≤ b.crt ∧ b.crt ≤ 1099511627776 ∧ 1 ≤ b.life ∧ b.crt + b.life ≤ 1099511627776 := by
  obtain ⟨h1, _, _, _, h5, _, _⟩ := chkE_zero h
  have := idB_crt h1
  omega

set_option maxHeartbeats 1000000 in
theorem expires_any (b : Bun) (u : Value) (w : World) (h : RBlks w w.heap.size u b.blocks) (hf : Fits b) :
    Calls Try.prog 26 #[.agg (bunC b u).toArray] w fun e w' => e = .returned (.int .i64 (expS b)) ∧ Below w.heap.size w w' := by
  obtain ⟨E, hE⟩ : ∃ E, chkE b = E := ⟨_, rfl⟩
  obtain ⟨ua, uc, rfl, _⟩ := id h
  have HR := Lib.hid h
  have HF := Lib.hid hf
  have HE := Lib.hid hE
  clear h hf
  by_cases z : E = 0
  case neg =>
    have z' : (E != 0) = true := by simpa using z
    rw [show expS b = 0 from by unfold expS; rw [if_pos (by rw [hE]; exact z)]]
    clear hE z
    go_enter Try.func26, Try.ntmps26
    simp only [bunC]
    go_wp2_with fail
    refine (check_any b _ _ (HR.out.below (C := w.heap.size) (by repeat' (first | with_reducible (first | refine bset ?_ ?_ | exact Below.refl _ _ | assumption | refine bdrewN ?_ _ | refine bdrew ?_ | refine balloc0 ?_ | refine balloc ?_ ?_ | (apply btrans0; rotate_left; assumption) | (apply btrans; rotate_left; assumption)) | exact Below.refl _ _ | assumption | (apply btrans0; rotate_left; assumption) | (apply btrans; rotate_left; assumption) | (simp; done) | omega | (simp; omega))) (Nat.le_refl _) (by simp)) HF.out).mono ?_
    rintro e w1 ⟨rfl, hb1⟩
    rw [HE.out]
    go_wp2
    go_ret
    exact ⟨rfl, (by repeat' (first | with_reducible (first | refine bset ?_ ?_ | exact Below.refl _ _ | assumption | refine bdrewN ?_ _ | refine bdrew ?_ | refine balloc0 ?_ | refine balloc ?_ ?_ | (apply btrans0; rotate_left; assumption) | (apply btrans; rotate_left; assumption)) | exact Below.refl _ _ | assumption | (apply btrans0; rotate_left; assumption) | (apply btrans; rotate_left; assumption) | (simp; done) | omega | (simp; omega)))⟩
  subst z
  obtain ⟨f1, f2, f3, f4⟩ := exp_facts hE
  rw [show expS b = b.crt + b.life from by unfold expS; rw [if_neg (by simp [hE])]]
  have hwk : IntKind.i64.wrap (b.crt + b.life) = b.crt + b.life := by rw [IntKind.wrap_i64]; omega
  clear hE
  go_enter Try.func26, Try.ntmps26
  simp only [bunC]
  go_wp2_with fail
  refine (check_any b _ _ (HR.out.below (C := w.heap.size) (by repeat' (first | with_reducible (first | refine bset ?_ ?_ | exact Below.refl _ _ | assumption | refine bdrewN ?_ _ | refine bdrew ?_ | refine balloc0 ?_ | refine balloc ?_ ?_ | (apply btrans0; rotate_left; assumption) | (apply btrans; rotate_left; assumption)) | exact Below.refl _ _ | assumption | (apply btrans0; rotate_left; assumption) | (apply btrans; rotate_left; assumption) | (simp; done) | omega | (simp; omega))) (Nat.le_refl _) (by simp)) HF.out).mono ?_
  rintro e w1 ⟨rfl, hb1⟩
  rw [HE.out]
  have G1 : w1.heap[w.heap.size]? = some (.cells (bunC b (.slice ua b.blocks.length uc)).toArray 28 (0, 0)) := (hb1.block _ (by simp)).trans heap_new
  have ca := fun o => cellB G1 o
  simp only [bunC] at ca
  go_wp2
  go_ret
  exact ⟨rfl, (by repeat' (first | with_reducible (first | refine bset ?_ ?_ | exact Below.refl _ _ | assumption | refine bdrewN ?_ _ | refine bdrew ?_ | refine balloc0 ?_ | refine balloc ?_ ?_ | (apply btrans0; rotate_left; assumption) | (apply btrans; rotate_left; assumption)) | exact Below.refl _ _ | assumption | (apply btrans0; rotate_left; assumption) | (apply btrans; rotate_left; assumption) | (simp; done) | omega | (simp; omega)))⟩
set_option maxHeartbeats 1000000 in
theorem rexpires_any (b : Bun) (u : Value) (w : World) (h : RBlks w w.heap.size u b.blocks) (hf : Fits b) :
    Calls Try.prog 27 #[.agg (bunC b u).toArray] w fun e w' => e = .returned (.int .i64 (expS b)) ∧ Below w.heap.size w w' := by
  obtain ⟨E, hE⟩ : ∃ E, chkE b = E := ⟨_, rfl⟩
  obtain ⟨ua, uc, rfl, _⟩ := id h
  have HR := Lib.hid h
  have HF := Lib.hid hf
  have HE := Lib.hid hE
  clear h hf
  by_cases z : E = 0
  case neg =>
    have z' : (E != 0) = true := by simpa using z
    rw [show expS b = 0 from by unfold expS; rw [if_pos (by rw [hE]; exact z)]]
    clear hE z
    go_enter Try.func27, Try.ntmps27
    simp only [bunC]
    go_wp2_with fail
    refine (rcheck_any b _ _ (HR.out.below (C := w.heap.size) (by repeat' (first | with_reducible (first | refine bset ?_ ?_ | exact Below.refl _ _ | assumption | refine bdrewN ?_ _ | refine bdrew ?_ | refine balloc0 ?_ | refine balloc ?_ ?_ | (apply btrans0; rotate_left; assumption) | (apply btrans; rotate_left; assumption)) | exact Below.refl _ _ | assumption | (apply btrans0; rotate_left; assumption) | (apply btrans; rotate_left; assumption) | (simp; done) | omega | (simp; omega))) (Nat.le_refl _) (by simp)) HF.out).mono ?_
    rintro e w1 ⟨rfl, hb1⟩
    rw [HE.out]
    go_wp2
    go_ret
    exact ⟨rfl, (by repeat' (first | with_reducible (first | refine bset ?_ ?_ | exact Below.refl _ _ | assumption | refine bdrewN ?_ _ | refine bdrew ?_ | refine balloc0 ?_ | refine balloc ?_ ?_ | (apply btrans0; rotate_left; assumption) | (apply btrans; rotate_left; assumption)) | exact Below.refl _ _ | assumption | (apply btrans0; rotate_left; assumption) | (apply btrans; rotate_left; assumption) | (simp; done) | omega | (simp; omega)))⟩
  subst z
  obtain ⟨f1, f2, f3, f4⟩ := exp_facts hE
  rw [show expS b = b.crt + b.life from by unfold expS; rw [if_neg (by simp [hE])]]
  have hwk : IntKind.i64.wrap (b.crt + b.life) = b.crt + b.life := by rw [IntKind.wrap_i64]; omega
  clear hE
  go_enter Try.func27, Try.ntmps27
  simp only [bunC]
  go_wp2_with fail
  refine (rcheck_any b _ _ (HR.out.below (C := w.heap.size) (by repeat' (first | with_reducible (first | refine bset ?_ ?_ | exact Below.refl _ _ | assumption | refine bdrewN ?_ _ | refine bdrew ?_ | refine balloc0 ?_ | refine balloc ?_ ?_ | (apply btrans0; rotate_left; assumption) | (apply btrans; rotate_left; assumption)) | exact Below.refl _ _ | assumption | (apply btrans0; rotate_left; assumption) | (apply btrans; rotate_left; assumption) | (simp; done) | omega | (simp; omega))) (Nat.le_refl _) (by simp)) HF.out).mono ?_
  rintro e w1 ⟨rfl, hb1⟩
  rw [HE.out]
  have G1 : w1.heap[w.heap.size]? = some (.cells (bunC b (.slice ua b.blocks.length uc)).toArray 28 (0, 0)) := (hb1.block _ (by simp)).trans heap_new
  have ca := fun o => cellB G1 o
  simp only [bunC] at ca
  go_wp2
  go_ret
  exact ⟨rfl, (by repeat' (first | with_reducible (first | refine bset ?_ ?_ | exact Below.refl _ _ | assumption | refine bdrewN ?_ _ | refine bdrew ?_ | refine balloc0 ?_ | refine balloc ?_ ?_ | (apply btrans0; rotate_left; assumption) | (apply btrans; rotate_left; assumption)) | exact Below.refl _ _ | assumption | (apply btrans0; rotate_left; assumption) | (apply btrans; rotate_left; assumption) | (simp; done) | omega | (simp; omega)))⟩

set_option maxHeartbeats 1000000 in
theorem expired_any (b : Bun) (u : Value) (now : Int) (w : World) (h : RBlks w w.heap.size u b.blocks) (hf : Fits b) :
    Calls Try.prog 28 #[.agg (bunC b u).toArray, .int .i64 now] w fun e w' => e = .returned (.bool (expdS b now)) ∧ Below w.heap.size w w' := by
  obtain ⟨E, hE⟩ : ∃ E, chkE b = E := ⟨_, rfl⟩
  obtain ⟨ua, uc, rfl, _⟩ := id h
  have HR := Lib.hid h
  have HF := Lib.hid hf
  have HE := Lib.hid hE
  clear h hf
  by_cases z : E = 0
  case neg =>
    have z' : (E == 0) = false := beq_eq_false_iff_ne.2 z
    rw [show expdS b now = false from by unfold expdS; rw [hE]; simp [z]]
    clear hE z
    go_enter Try.func28, Try.ntmps28
    simp only [bunC]
    go_wp2_with fail
    refine (check_any b _ _ (HR.out.below (C := w.heap.size) (by repeat' (first | with_reducible (first | refine bset ?_ ?_ | exact Below.refl _ _ | assumption | refine bdrewN ?_ _ | refine bdrew ?_ | refine balloc0 ?_ | refine balloc ?_ ?_ | (apply btrans0; rotate_left; assumption) | (apply btrans; rotate_left; assumption)) | exact Below.refl _ _ | assumption | (apply btrans0; rotate_left; assumption) | (apply btrans; rotate_left; assumption) | (simp; done) | omega | (simp; omega))) (Nat.le_refl _) (by simp)) HF.out).mono ?_
    rintro e w1 ⟨rfl, hb1⟩
    rw [HE.out]
    go_wp2
    go_ret
    exact ⟨rfl, (by repeat' (first | with_reducible (first | refine bset ?_ ?_ | exact Below.refl _ _ | assumption | refine bdrewN ?_ _ | refine bdrew ?_ | refine balloc0 ?_ | refine balloc ?_ ?_ | (apply btrans0; rotate_left; assumption) | (apply btrans; rotate_left; assumption)) | exact Below.refl _ _ | assumption | (apply btrans0; rotate_left; assumption) | (apply btrans; rotate_left; assumption) | (simp; done) | omega | (simp; omega)))⟩
  subst z
  rw [show expdS b now = decide (expS b ≤ now) from by unfold expdS expS; rw [if_neg (by simp [hE])]; simp [hE]]
  obtain ⟨x, hx⟩ : ∃ x, expS b = x := ⟨_, rfl⟩
  have HX := Lib.hid hx
  rw [hx]
  clear hE hx
  go_enter Try.func28, Try.ntmps28
  simp only [bunC]
  go_wp2_with fail
  refine (check_any b _ _ (HR.out.below (C := w.heap.size) (by repeat' (first | with_reducible (first | refine bset ?_ ?_ | exact Below.refl _ _ | assumption | refine bdrewN ?_ _ | refine bdrew ?_ | refine balloc0 ?_ | refine balloc ?_ ?_ | (apply btrans0; rotate_left; assumption) | (apply btrans; rotate_left; assumption)) | exact Below.refl _ _ | assumption | (apply btrans0; rotate_left; assumption) | (apply btrans; rotate_left; assumption) | (simp; done) | omega | (simp; omega))) (Nat.le_refl _) (by simp)) HF.out).mono ?_
  rintro e w1 ⟨rfl, hb1⟩
  rw [HE.out]
  have z1 : w.heap.size < w1.heap.size := by have := hb1.size; simp at this; omega
  have hB1 : Below w.heap.size w w1 := (by repeat' (first | with_reducible (first | refine bset ?_ ?_ | exact Below.refl _ _ | assumption | refine bdrewN ?_ _ | refine bdrew ?_ | refine balloc0 ?_ | refine balloc ?_ ?_ | (apply btrans0; rotate_left; assumption) | (apply btrans; rotate_left; assumption)) | exact Below.refl _ _ | assumption | (apply btrans0; rotate_left; assumption) | (apply btrans; rotate_left; assumption) | (simp; done) | omega | (simp; omega)))
  have G1 : w1.heap[w.heap.size]? = some (.cells (bunC b (.slice ua b.blocks.length uc)).toArray 28 (0, 0)) := (hb1.block _ (by simp)).trans heap_new
  have ca := fun o => cellB G1 o
  simp only [bunC] at ca
  clear hb1
  go_wp2_with fail
  refine (expires_any b _ _ (HR.out.below (C := w.heap.size) hB1 (Nat.le_refl _) (by omega)) HF.out).mono ?_
  rw [HX.out]
  rintro e w2 ⟨rfl, hb2⟩
  go_wp2
  go_ret
  exact ⟨rfl, (by repeat' (first | with_reducible (first | refine bset ?_ ?_ | exact Below.refl _ _ | assumption | refine bdrewN ?_ _ | refine bdrew ?_ | refine balloc0 ?_ | refine balloc ?_ ?_ | (apply btrans0; rotate_left; assumption) | (apply btrans; rotate_left; assumption)) | exact Below.refl _ _ | assumption | (apply btrans0; rotate_left; assumption) | (apply btrans; rotate_left; assumption) | (simp; done) | omega | (simp; omega)))⟩
set_option maxHeartbeats 1000000 in
theorem rexpired_any (b : Bun) (u : Value) (now : Int) (w : World) (h : RBlks w w.heap.size u b.blocks) (hf : Fits b) :
    Calls Try.prog 29 #[.agg (bunC b u).toArray, .int .i64 now] w fun e w' => e = .returned (.bool (expdS b now)) ∧ Below w.heap.size w w' := by
  obtain ⟨E, hE⟩ : ∃ E, chkE b = E := ⟨_, rfl⟩
  obtain ⟨ua, uc, rfl, _⟩ := id h
  have HR := Lib.hid h
  have HF := Lib.hid hf
  have HE := Lib.hid hE
  clear h hf
  by_cases z : E = 0
  case neg =>
    have z' : (E == 0) = false := beq_eq_false_iff_ne.2 z
    rw [show expdS b now = false from by unfold expdS; rw [hE]; simp [z]]
    clear hE z
    go_enter Try.func29, Try.ntmps29
    simp only [bunC]
    go_wp2_with fail
    refine (rcheck_any b _ _ (HR.out.below (C := w.heap.size) (by repeat' (first | with_reducible (first | refine bset ?_ ?_ | exact Below.refl _ _ | assumption | refine bdrewN ?_ _ | refine bdrew ?_ | refine balloc0 ?_ | refine balloc ?_ ?_ | (apply btrans0; rotate_left; assumption) | (apply btrans; rotate_left; assumption)) | exact Below.refl _ _ | assumption | (apply btrans0; rotate_left; assumption) | (apply btrans; rotate_left; assumption) | (simp; done) | omega | (simp; omega))) (Nat.le_refl _) (by simp)) HF.out).mono ?_
    rintro e w1 ⟨rfl, hb1⟩
    rw [HE.out]
    go_wp2
    go_ret
    exact ⟨rfl, (by repeat' (first | with_reducible (first | refine bset ?_ ?_ | exact Below.refl _ _ | assumption | refine bdrewN ?_ _ | refine bdrew ?_ | refine balloc0 ?_ | refine balloc ?_ ?_ | (apply btrans0; rotate_left; assumption) | (apply btrans; rotate_left; assumption)) | exact Below.refl _ _ | assumption | (apply btrans0; rotate_left; assumption) | (apply btrans; rotate_left; assumption) | (simp; done) | omega | (simp; omega)))⟩
  subst z
  obtain ⟨f1, f2, f3, f4⟩ := exp_facts hE
  rw [show expdS b now = decide (b.crt + b.life ≤ now) from by unfold expdS; simp [hE]]
  have hwk : IntKind.i64.wrap (b.crt + b.life) = b.crt + b.life := by rw [IntKind.wrap_i64]; omega
  clear hE
  go_enter Try.func29, Try.ntmps29
  simp only [bunC]
  go_wp2_with fail
  refine (rcheck_any b _ _ (HR.out.below (C := w.heap.size) (by repeat' (first | with_reducible (first | refine bset ?_ ?_ | exact Below.refl _ _ | assumption | refine bdrewN ?_ _ | refine bdrew ?_ | refine balloc0 ?_ | refine balloc ?_ ?_ | (apply btrans0; rotate_left; assumption) | (apply btrans; rotate_left; assumption)) | exact Below.refl _ _ | assumption | (apply btrans0; rotate_left; assumption) | (apply btrans; rotate_left; assumption) | (simp; done) | omega | (simp; omega))) (Nat.le_refl _) (by simp)) HF.out).mono ?_
  rintro e w1 ⟨rfl, hb1⟩
  rw [HE.out]
  have G1 : w1.heap[w.heap.size]? = some (.cells (bunC b (.slice ua b.blocks.length uc)).toArray 28 (0, 0)) := (hb1.block _ (by simp)).trans heap_new
  have ca := fun o => cellB G1 o
  simp only [bunC] at ca
  go_wp2
  go_ret
  exact ⟨rfl, (by repeat' (first | with_reducible (first | refine bset ?_ ?_ | exact Below.refl _ _ | assumption | refine bdrewN ?_ _ | refine bdrew ?_ | refine balloc0 ?_ | refine balloc ?_ ?_ | (apply btrans0; rotate_left; assumption) | (apply btrans; rotate_left; assumption)) | exact Below.refl _ _ | assumption | (apply btrans0; rotate_left; assumption) | (apply btrans; rotate_left; assumption) | (simp; done) | omega | (simp; omega)))⟩
end Go.Proofs.Ythedoidpapodgaa
