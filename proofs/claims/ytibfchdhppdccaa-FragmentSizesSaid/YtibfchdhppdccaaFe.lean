/- Walks of layer 17 (fragment): Is, Span, Cut (the program's and the reference's). -/
import Derived.Test.YtibfchdhppdccaaFd
set_option linter.unusedVariables false
set_option linter.unusedSimpArgs false
namespace Go.Proofs.Ytibfchdhppdccaa
open Go Go.RowKit
attribute [local go_sem] B_getElem B_size B_app B_extract B_get B_toList

theorem chkE_zero {b : Bun} (h : chkE b = 0) : idB b = true ∧ flB b = true ∧ blksE b.blocks = 0 ∧ payE b = 0 ∧ (1 ≤ b.life ∧ b.life ≤ 1099511627776 - b.crt) ∧ (0 ≤ b.prio ∧ b.prio ≤ 2) ∧ endE b.dk b.dn = 0 := by
  unfold chkE at h
  split at h
  · contradiction
  · rename_i h1
    split at h
    · contradiction
    · rename_i h2
      split at h
      · simp at h
      · split at h
        · simp at h
        · split at h
          · contradiction
          · rename_i h5
            split at h
            · contradiction
            · rename_i h6
              refine ⟨idE_zero (by simpa using h1), ?_, by simpa using h6, h, by omega, by omega, by simpa using h2⟩
              unfold flE at h5
              cases hb : flB b with
              | true => rfl
              | false => rw [hb] at h5; simp at h5
theorem blksE_zero {l : List Blk} (h : blksE l = 0) : l.length ≤ 8 ∧ firstE l = 0 ∧ ordB l = true := by
  unfold blksE at h
  split at h
  · simp at h
  · split at h
    · contradiction
    · split at h
      · rename_i h1 h2 h3; exact ⟨by omega, by simpa using h2, h3⟩
      · simp at h
theorem payE_zero {b : Bun} (h : payE b = 0) : b.payload.length ≤ 4096 ∧ (0 < b.tot → 1 ≤ b.payload.length ∧ (b.payload.length : Int) ≤ b.tot - b.off) := by
  unfold payE at h
  split at h
  · simp at h
  · split at h
    · simp at h
    · rename_i h1 h2
      refine ⟨by omega, fun ht => ?_⟩
      by_cases h3 : 1 ≤ b.payload.length ∧ (b.payload.length : Int) ≤ b.tot - b.off
      · exact h3
      · exact absurd ⟨ht, h3⟩ h2
/-- what a valid bundle's fields are -/
theorem valid_facts {b : Bun} (h : chkE b = 0) : 0 ≤ b.off ∧ b.off ≤ 4096 ∧ 0 ≤ b.tot ∧ b.tot ≤ 4096 ∧ b.payload.length ≤ 4096 ∧ 0 ≤ b.flags ∧ b.flags ≤ 127 ∧ b.blocks.length ≤ 8 ∧ (b.tot = 0 → b.off = 0) ∧ (0 < b.tot → 1 ≤ b.payload.length ∧ b.off + (b.payload.length : Int) ≤ b.tot) := by
  obtain ⟨h1, h2, h3, h4, _⟩ := chkE_zero h
  have a := of_decide_eq_true h1
  have c := payE_zero h4
  have d := blksE_zero h3
  unfold flB at h2
  simp only [Bool.and_eq_true, decide_eq_true_eq] at h2
  obtain ⟨⟨h5, _⟩, _⟩ := h2
  refine ⟨by omega, by omega, by omega, by omega, c.1, h5.1, h5.2, d.1, by omega, fun ht => ?_⟩
  have := c.2 ht
  omega
theorem valid_blocks {b : Bun} (h : chkE b = 0) : ∀ x ∈ b.blocks, 0 ≤ x.flags ∧ x.flags ≤ 15 := fun x hx => by
  obtain ⟨_, _, h3, _⟩ := chkE_zero h
  have := blkE_zero (firstE_zero (blksE_zero h3).2.1 x hx)
  omega

def zBun : Bun := ⟨0, 0, 0, 0, 0, 0, 0, 0, 0, 0, [], []⟩
/-- a bundle and an error come back -/
def BunEPost (N : Nat) (b : Bun) (E : Int) (w : World) (e : Ending) (w' : World) : Prop := ∃ u, e = .returned (.tuple #[.agg (bunC b u).toArray, .int .i64 E]) ∧ RBlksD w' (OldNew N w w') u b.blocks ∧ Below w.heap.size w w'
def cutR (b : Bun) (f t : Int) : Bun × Int :=
  if chkE b ≠ 0 then (zBun, 1) else if cutE b ≠ 0 then (zBun, cutE b) else if t ≤ f ∨ f < b.off ∨ b.off + b.payload.length < t then (zBun, 2) else (cutS b f t, 0)
def isS (b : Bun) : Bool := decide (chkE b = 0) && decide (0 < b.tot)
def spanR (b : Bun) : Int × Int × Int := if chkE b ≠ 0 then (0, 0, 1) else (b.off, b.off + b.payload.length, 0)

set_option maxHeartbeats 1000000 in
theorem cutr_any (b : Bun) (u : Value) (f t : Int) (N : Nat) (w : World) (hN : N ≤ w.heap.size) (h : RBlks w N u b.blocks) (hf : Fits b) :
    Calls Try.prog 23 #[.agg (bunC b u).toArray, .int .i64 f, .int .i64 t] w (BunEPost N (cutR b f t).1 (cutR b f t).2 w) := by
  obtain ⟨E, hE⟩ : ∃ E, chkE b = E := ⟨_, rfl⟩
  obtain ⟨C, hC⟩ : ∃ E, cutE b = E := ⟨_, rfl⟩
  obtain ⟨ua, uc, rfl, _⟩ := id h
  have HR := Lib.hid h
  have HF := Lib.hid hf
  have HE := Lib.hid hE
  have HC := Lib.hid hC
  clear h hf
  by_cases z : E = 0
  case neg =>
    have z' : (E != 0) = true := by simpa using z
    have hr : cutR b f t = (zBun, 1) := by unfold cutR; rw [hE, if_pos z]
    rw [hr]
    clear hE hC z hr
    go_enter Try.func23, Try.ntmps23
    simp only [bunC]
    go_wp2_with fail
    refine (check_any b _ _ (HR.out.below (C := w.heap.size) (by repeat' (first | (with_reducible refine bset ?_ ?_) | (with_reducible exact Below.refl _ _) | (with_reducible assumption) | (with_reducible refine bdrewN ?_ _) | (with_reducible refine bdrew ?_) | (with_reducible refine balloc0 ?_) | (with_reducible refine balloc ?_ ?_) | (with_reducible apply btrans0; rotate_left; with_reducible assumption) | (with_reducible apply btrans; rotate_left; with_reducible assumption) | exact Below.refl _ _ | assumption | (apply btrans0; rotate_left; assumption) | (apply btrans; rotate_left; assumption) | (simp; done) | omega | (simp; omega))) hN (by first | omega | (simp; done) | (simp; omega))) HF.out).mono ?_
    rintro e w1 ⟨rfl, hb1⟩
    rw [HE.out]
    obtain ⟨k1, f1⟩ := bcell hb1
    have z1 : w.heap.size + 1 < w1.heap.size := by have := hb1.size; simp at this; omega
    go_wp2
    refine bodyPost_ret (v := .tuple #[.agg #[.int .i64 0, .int .i64 0, .int .i64 0, .int .i64 0, .int .i64 0, .int .i64 0, .int .i64 0, .int .i64 0, .int .i64 0, .int .i64 0, .slice none 0 0, .string (B [])], .int .i64 1]) (by simp [results, Try.results23, go_sem, World.cell?_setCell_same', k1, z1]; rfl) rfl ?_
    exact ⟨_, rfl, RBlksD.nil _ _, (by repeat' (first | (with_reducible refine bset ?_ ?_) | (with_reducible exact Below.refl _ _) | (with_reducible assumption) | (with_reducible refine bdrewN ?_ _) | (with_reducible refine bdrew ?_) | (with_reducible refine balloc0 ?_) | (with_reducible refine balloc ?_ ?_) | (with_reducible apply btrans0; rotate_left; with_reducible assumption) | (with_reducible apply btrans; rotate_left; with_reducible assumption) | exact Below.refl _ _ | assumption | (apply btrans0; rotate_left; assumption) | (apply btrans; rotate_left; assumption) | (simp; done) | omega | (simp; omega)))⟩
  subst z
  obtain ⟨v1, v2, v3, v4, v5, v6, v7, v8, _, _⟩ := valid_facts hE
  have HV := Lib.hid (valid_blocks hE)
  by_cases y : C = 0
  case neg =>
    have y' : (C != 0) = true := by simpa using y
    have hr : cutR b f t = (zBun, C) := by unfold cutR; rw [hE, hC, if_neg (by simp), if_pos y]
    rw [hr]
    clear hE hC y hr
    go_enter Try.func23, Try.ntmps23
    simp only [bunC]
    go_wp2_with fail
    refine (check_any b _ _ (HR.out.below (C := w.heap.size) (by repeat' (first | (with_reducible refine bset ?_ ?_) | (with_reducible exact Below.refl _ _) | (with_reducible assumption) | (with_reducible refine bdrewN ?_ _) | (with_reducible refine bdrew ?_) | (with_reducible refine balloc0 ?_) | (with_reducible refine balloc ?_ ?_) | (with_reducible apply btrans0; rotate_left; with_reducible assumption) | (with_reducible apply btrans; rotate_left; with_reducible assumption) | exact Below.refl _ _ | assumption | (apply btrans0; rotate_left; assumption) | (apply btrans; rotate_left; assumption) | (simp; done) | omega | (simp; omega))) hN (by first | omega | (simp; done) | (simp; omega))) HF.out).mono ?_
    rintro e w1 ⟨rfl, hb1⟩
    rw [HE.out]
    obtain ⟨k1, f1⟩ := bcell hb1
    have z1 : w.heap.size + 1 < w1.heap.size := by have := hb1.size; simp at this; omega
    have z1' : w.heap.size < w1.heap.size := by omega
    go_wp2_with fail
    refine (cuttable_any b _ _ v6 v7).mono ?_
    rintro e w2 ⟨rfl, hb2⟩
    rw [HC.out]
    obtain ⟨k2, f2⟩ := bcell hb2
    have z2 : w.heap.size + 1 < w2.heap.size := by have := hb2.size; omega
    go_wp2
    refine bodyPost_ret (v := .tuple #[.agg #[.int .i64 0, .int .i64 0, .int .i64 0, .int .i64 0, .int .i64 0, .int .i64 0, .int .i64 0, .int .i64 0, .int .i64 0, .int .i64 0, .slice none 0 0, .string (B [])], .int .i64 C]) (by simp [results, Try.results23, go_sem, World.cell?_setCell_same', k1, k2, z1, z2]; rfl) rfl ?_
    exact ⟨_, rfl, RBlksD.nil _ _, (by repeat' (first | (with_reducible refine bset ?_ ?_) | (with_reducible exact Below.refl _ _) | (with_reducible assumption) | (with_reducible refine bdrewN ?_ _) | (with_reducible refine bdrew ?_) | (with_reducible refine balloc0 ?_) | (with_reducible refine balloc ?_ ?_) | (with_reducible apply btrans0; rotate_left; with_reducible assumption) | (with_reducible apply btrans; rotate_left; with_reducible assumption) | exact Below.refl _ _ | assumption | (apply btrans0; rotate_left; assumption) | (apply btrans; rotate_left; assumption) | (simp; done) | omega | (simp; omega)))⟩
  subst y
  have hr : cutR b f t = if t ≤ f ∨ f < b.off ∨ b.off + b.payload.length < t then (zBun, 2) else (cutS b f t, 0) := by unfold cutR; rw [hE, hC, if_neg (by simp), if_neg (by simp)]
  have HRR := Lib.hid hr
  clear hr hE hC
  have hl := HF.out.1
  unfold maxLen at hl
  by_cases x : t ≤ f ∨ f < b.off ∨ b.off + b.payload.length < t
  case pos =>
    have hr : cutR b f t = (zBun, 2) := by rw [HRR.out, if_pos x]
    rw [hr]
    clear hr HRR
    have X := Lib.hid x
    by_cases x1 : t ≤ f
    all_goals (try (have x1' : f < t := by omega))
    all_goals (by_cases x2 : f < b.off)
    all_goals (try (have x2' : b.off ≤ f := by omega))
    all_goals
      (try (have x3' : b.off + b.payload.length < t := by omega))
      clear x
      go_enter Try.func23, Try.ntmps23
      simp only [bunC]
      go_wp2_with fail
      refine (check_any b _ _ (HR.out.below (C := w.heap.size) (by repeat' (first | (with_reducible refine bset ?_ ?_) | (with_reducible exact Below.refl _ _) | (with_reducible assumption) | (with_reducible refine bdrewN ?_ _) | (with_reducible refine bdrew ?_) | (with_reducible refine balloc0 ?_) | (with_reducible refine balloc ?_ ?_) | (with_reducible apply btrans0; rotate_left; with_reducible assumption) | (with_reducible apply btrans; rotate_left; with_reducible assumption) | exact Below.refl _ _ | assumption | (apply btrans0; rotate_left; assumption) | (apply btrans; rotate_left; assumption) | (simp; done) | omega | (simp; omega))) hN (by first | omega | (simp; done) | (simp; omega))) HF.out).mono ?_
      rintro e w1 ⟨rfl, hb1⟩
      rw [HE.out]
      obtain ⟨k1, f1⟩ := bcell hb1
      have z1 : w.heap.size + 1 < w1.heap.size := by have := hb1.size; simp at this; omega
      have z1' : w.heap.size < w1.heap.size := by omega
      go_wp2_with fail
      refine (cuttable_any b _ _ v6 v7).mono ?_
      rintro e w2 ⟨rfl, hb2⟩
      rw [HC.out]
      obtain ⟨k2, f2⟩ := bcell hb2
      have z2 : w.heap.size + 1 < w2.heap.size := by have := hb2.size; omega
      have z2' : w.heap.size < w2.heap.size := by omega
      go_wp2_with fail
      refine (span_any b _ _ v1 (by omega) (by omega)).mono ?_
      rintro e w3 ⟨rfl, hb3⟩
      obtain ⟨k3, f3⟩ := bcell hb3
      have z3 : w.heap.size + 1 < w3.heap.size := by have := hb3.size; omega
      have z3' : w.heap.size < w3.heap.size := by omega
      go_wp2
      all_goals
        refine bodyPost_ret (v := .tuple #[.agg #[.int .i64 0, .int .i64 0, .int .i64 0, .int .i64 0, .int .i64 0, .int .i64 0, .int .i64 0, .int .i64 0, .int .i64 0, .int .i64 0, .slice none 0 0, .string (B [])], .int .i64 2]) (by simp [results, Try.results23, go_sem, World.cell?_setCell_same', k1, k2, k3, z1, z2, z3]; rfl) rfl ?_
        exact ⟨_, rfl, RBlksD.nil _ _, (by repeat' (first | (with_reducible refine bset ?_ ?_) | (with_reducible exact Below.refl _ _) | (with_reducible assumption) | (with_reducible refine bdrewN ?_ _) | (with_reducible refine bdrew ?_) | (with_reducible refine balloc0 ?_) | (with_reducible refine balloc ?_ ?_) | (with_reducible apply btrans0; rotate_left; with_reducible assumption) | (with_reducible apply btrans; rotate_left; with_reducible assumption) | exact Below.refl _ _ | assumption | (apply btrans0; rotate_left; assumption) | (apply btrans; rotate_left; assumption) | (simp; done) | omega | (simp; omega)))⟩
  have hr : cutR b f t = (cutS b f t, 0) := by rw [HRR.out, if_neg x]
  rw [hr]
  clear hr HRR
  have x1 : f < t := by omega
  have x2 : b.off ≤ f := by omega
  have x3 : t ≤ b.off + b.payload.length := by omega
  clear x
  obtain ⟨c, hc⟩ : ∃ c, cutS b f t = c := ⟨_, rfl⟩
  have HCC := Lib.hid hc
  rw [hc]
  clear hc
  go_enter Try.func23, Try.ntmps23
  simp only [bunC]
  go_wp2_with fail
  refine (check_any b _ _ (HR.out.below (C := w.heap.size) (by repeat' (first | (with_reducible refine bset ?_ ?_) | (with_reducible exact Below.refl _ _) | (with_reducible assumption) | (with_reducible refine bdrewN ?_ _) | (with_reducible refine bdrew ?_) | (with_reducible refine balloc0 ?_) | (with_reducible refine balloc ?_ ?_) | (with_reducible apply btrans0; rotate_left; with_reducible assumption) | (with_reducible apply btrans; rotate_left; with_reducible assumption) | exact Below.refl _ _ | assumption | (apply btrans0; rotate_left; assumption) | (apply btrans; rotate_left; assumption) | (simp; done) | omega | (simp; omega))) hN (by first | omega | (simp; done) | (simp; omega))) HF.out).mono ?_
  rintro e w1 ⟨rfl, hb1⟩
  rw [HE.out]
  obtain ⟨k1, f1⟩ := bcell hb1
  have z1 : w.heap.size + 1 < w1.heap.size := by have := hb1.size; simp at this; omega
  have z1' : w.heap.size < w1.heap.size := by omega
  go_wp2_with fail
  refine (cuttable_any b _ _ v6 v7).mono ?_
  rintro e w2 ⟨rfl, hb2⟩
  rw [HC.out]
  obtain ⟨k2, f2⟩ := bcell hb2
  have z2 : w.heap.size + 1 < w2.heap.size := by have := hb2.size; omega
  have z2' : w.heap.size < w2.heap.size := by omega
  go_wp2_with fail
  refine (span_any b _ _ v1 (by omega) (by omega)).mono ?_
  rintro e w3 ⟨rfl, hb3⟩
  obtain ⟨k3, f3⟩ := bcell hb3
  have z3 : w.heap.size + 1 < w3.heap.size := by have := hb3.size; omega
  have z3' : w.heap.size < w3.heap.size := by omega
  go_wp2_with fail
  have hB3 : Below w.heap.size w (w3.alloc (.cells #[.int .i64 b.off, .int .i64 (b.off + b.payload.length)] 46)) := (by repeat' (first | (with_reducible refine bset ?_ ?_) | (with_reducible exact Below.refl _ _) | (with_reducible assumption) | (with_reducible refine bdrewN ?_ _) | (with_reducible refine bdrew ?_) | (with_reducible refine balloc0 ?_) | (with_reducible refine balloc ?_ ?_) | (with_reducible apply btrans0; rotate_left; with_reducible assumption) | (with_reducible apply btrans; rotate_left; with_reducible assumption) | exact Below.refl _ _ | assumption | (apply btrans0; rotate_left; assumption) | (apply btrans; rotate_left; assumption) | (simp; done) | omega | (simp; omega)))
  refine (cut_any b _ f t N _ (by simp; omega) (HR.out.below (C := w.heap.size) (by exact hB3) hN (Nat.le_refl _)) v1 x2 (by omega) x3 (by omega) (by omega) HV.out (by omega)).mono ?_
  rintro e w4 ⟨u4, rfl, hr4, hb4⟩
  rw [HCC.out] at hr4
  rw [HCC.out]
  obtain ⟨a4, c4, rfl, _⟩ := id hr4
  have HR4 := Lib.hid hr4
  clear hr4
  obtain ⟨k4, f4⟩ := bcell hb4
  have z4 : w.heap.size + 1 < w4.heap.size := by have := hb4.size; simp at this; omega
  simp only [bunC]
  go_wp2
  refine bodyPost_ret (v := .tuple #[.agg #[.int .i64 c.src, .int .i64 c.crt, .int .i64 c.seq, .int .i64 c.off, .int .i64 c.tot, .int .i64 c.dk, .int .i64 c.dn, .int .i64 c.life, .int .i64 c.prio, .int .i64 c.flags, .slice a4 c.blocks.length c4, .string (B c.payload)], .int .i64 0]) (by simp [results, Try.results23, go_sem, World.cell?_setCell_same', k1, k2, k3, k4, z1, z2, z3, z1', z2', z3', z4]) rfl ?_
  refine ⟨_, rfl, HR4.out.keep (fun q o hq => ?_) (fun q hq => ?_), (by repeat' (first | (with_reducible refine bset ?_ ?_) | (with_reducible exact Below.refl _ _) | (with_reducible assumption) | (with_reducible refine bdrewN ?_ _) | (with_reducible refine bdrew ?_) | (with_reducible refine balloc0 ?_) | (with_reducible refine balloc ?_ ?_) | (with_reducible apply btrans0; rotate_left; with_reducible assumption) | (with_reducible apply btrans; rotate_left; with_reducible assumption) | exact Below.refl _ _ | assumption | (apply btrans0; rotate_left; assumption) | (apply btrans; rotate_left; assumption) | (simp; done) | omega | (simp; omega)))⟩
  · have : q ≠ w.heap.size + 1 := by rcases hq with hq | hq <;> (try simp at hq) <;> omega
    simp (disch := (simp; omega)) only [World.cell?_setCell_far]
  · rcases hq with hq | hq
    · exact .inl hq
    · refine .inr ?_
      simp at hq ⊢
      omega

set_option maxHeartbeats 1000000 in
theorem is_any (b : Bun) (u : Value) (w : World) (h : RBlks w w.heap.size u b.blocks) (hf : Fits b) :
    Calls Try.prog 21 #[.agg (bunC b u).toArray] w fun e w' => e = .returned (.bool (isS b)) ∧ Below w.heap.size w w' := by
  obtain ⟨E, hE⟩ : ∃ E, chkE b = E := ⟨_, rfl⟩
  obtain ⟨ua, uc, rfl, _⟩ := id h
  have HR := Lib.hid h
  have HF := Lib.hid hf
  have HE := Lib.hid hE
  clear h hf
  have hI : isS b = (decide (E = 0) && decide (0 < b.tot)) := by unfold isS; rw [hE]
  rw [hI]
  clear hI hE
  by_cases z : E = 0
  · subst z
    go_enter Try.func21, Try.ntmps21
    simp only [bunC]
    go_wp2_with fail
    refine (check_any b _ _ (HR.out.below (C := w.heap.size) (by repeat' (first | (with_reducible refine bset ?_ ?_) | (with_reducible exact Below.refl _ _) | (with_reducible assumption) | (with_reducible refine bdrewN ?_ _) | (with_reducible refine bdrew ?_) | (with_reducible refine balloc0 ?_) | (with_reducible refine balloc ?_ ?_) | (with_reducible apply btrans0; rotate_left; with_reducible assumption) | (with_reducible apply btrans; rotate_left; with_reducible assumption) | exact Below.refl _ _ | assumption | (apply btrans0; rotate_left; assumption) | (apply btrans; rotate_left; assumption) | (simp; done) | omega | (simp; omega))) (Nat.le_refl _) (by first | omega | (simp; done) | (simp; omega))) HF.out).mono ?_
    rintro e w1 ⟨rfl, hb1⟩
    rw [HE.out]
    obtain ⟨k1, f1⟩ := bcell hb1
    have z1 : w.heap.size < w1.heap.size := by have := hb1.size; simp at this; omega
    go_wp2
    all_goals
      go_ret
      refine ⟨?_, (by repeat' (first | (with_reducible refine bset ?_ ?_) | (with_reducible exact Below.refl _ _) | (with_reducible assumption) | (with_reducible refine bdrewN ?_ _) | (with_reducible refine bdrew ?_) | (with_reducible refine balloc0 ?_) | (with_reducible refine balloc ?_ ?_) | (with_reducible apply btrans0; rotate_left; with_reducible assumption) | (with_reducible apply btrans; rotate_left; with_reducible assumption) | exact Below.refl _ _ | assumption | (apply btrans0; rotate_left; assumption) | (apply btrans; rotate_left; assumption) | (simp; done) | omega | (simp; omega)))⟩
      first | rfl | (simp; done)
  · have z' : (E == 0) = false := beq_eq_false_iff_ne.2 z
    have HZ := Lib.hid z
    clear z
    go_enter Try.func21, Try.ntmps21
    simp only [bunC]
    go_wp2_with fail
    refine (check_any b _ _ (HR.out.below (C := w.heap.size) (by repeat' (first | (with_reducible refine bset ?_ ?_) | (with_reducible exact Below.refl _ _) | (with_reducible assumption) | (with_reducible refine bdrewN ?_ _) | (with_reducible refine bdrew ?_) | (with_reducible refine balloc0 ?_) | (with_reducible refine balloc ?_ ?_) | (with_reducible apply btrans0; rotate_left; with_reducible assumption) | (with_reducible apply btrans; rotate_left; with_reducible assumption) | exact Below.refl _ _ | assumption | (apply btrans0; rotate_left; assumption) | (apply btrans; rotate_left; assumption) | (simp; done) | omega | (simp; omega))) (Nat.le_refl _) (by first | omega | (simp; done) | (simp; omega))) HF.out).mono ?_
    rintro e w1 ⟨rfl, hb1⟩
    rw [HE.out]
    obtain ⟨k1, f1⟩ := bcell hb1
    have z1 : w.heap.size < w1.heap.size := by have := hb1.size; simp at this; omega
    go_wp2
    all_goals
      go_ret
      refine ⟨?_, (by repeat' (first | (with_reducible refine bset ?_ ?_) | (with_reducible exact Below.refl _ _) | (with_reducible assumption) | (with_reducible refine bdrewN ?_ _) | (with_reducible refine bdrew ?_) | (with_reducible refine balloc0 ?_) | (with_reducible refine balloc ?_ ?_) | (with_reducible apply btrans0; rotate_left; with_reducible assumption) | (with_reducible apply btrans; rotate_left; with_reducible assumption) | exact Below.refl _ _ | assumption | (apply btrans0; rotate_left; assumption) | (apply btrans; rotate_left; assumption) | (simp; done) | omega | (simp; omega)))⟩
      first | (simp [HZ.out]; done) | rfl
set_option maxHeartbeats 1000000 in
theorem spanr_any (b : Bun) (u : Value) (w : World) (h : RBlks w w.heap.size u b.blocks) (hf : Fits b) :
    Calls Try.prog 22 #[.agg (bunC b u).toArray] w fun e w' => e = .returned (.tuple #[.agg #[.int .i64 (spanR b).1, .int .i64 (spanR b).2.1], .int .i64 (spanR b).2.2]) ∧ Below w.heap.size w w' := by
  obtain ⟨E, hE⟩ : ∃ E, chkE b = E := ⟨_, rfl⟩
  obtain ⟨ua, uc, rfl, _⟩ := id h
  have HR := Lib.hid h
  have HF := Lib.hid hf
  have HE := Lib.hid hE
  clear h hf
  by_cases z : E = 0
  · subst z
    obtain ⟨v1, v2, v3, v4, v5, _⟩ := valid_facts hE
    have hr : spanR b = (b.off, b.off + b.payload.length, 0) := by unfold spanR; rw [hE, if_neg (by simp)]
    rw [hr]
    clear hr hE
    go_enter Try.func22, Try.ntmps22
    simp only [bunC]
    go_wp2_with fail
    refine (check_any b _ _ (HR.out.below (C := w.heap.size) (by repeat' (first | (with_reducible refine bset ?_ ?_) | (with_reducible exact Below.refl _ _) | (with_reducible assumption) | (with_reducible refine bdrewN ?_ _) | (with_reducible refine bdrew ?_) | (with_reducible refine balloc0 ?_) | (with_reducible refine balloc ?_ ?_) | (with_reducible apply btrans0; rotate_left; with_reducible assumption) | (with_reducible apply btrans; rotate_left; with_reducible assumption) | exact Below.refl _ _ | assumption | (apply btrans0; rotate_left; assumption) | (apply btrans; rotate_left; assumption) | (simp; done) | omega | (simp; omega))) (Nat.le_refl _) (by first | omega | (simp; done) | (simp; omega))) HF.out).mono ?_
    rintro e w1 ⟨rfl, hb1⟩
    rw [HE.out]
    obtain ⟨k1, f1⟩ := bcell hb1
    have z1 : w.heap.size + 1 < w1.heap.size := by have := hb1.size; simp at this; omega
    have z1' : w.heap.size < w1.heap.size := by omega
    go_wp2_with fail
    refine (span_any b _ _ v1 (by omega) (by omega)).mono ?_
    rintro e w3 ⟨rfl, hb3⟩
    obtain ⟨k3, f3⟩ := bcell hb3
    have z3 : w.heap.size + 1 < w3.heap.size := by have := hb3.size; omega
    go_wp2
    refine bodyPost_ret (v := .tuple #[.agg #[.int .i64 b.off, .int .i64 (b.off + b.payload.length)], .int .i64 0]) (by simp [results, Try.results22, go_sem, World.cell?_setCell_same', k1, k3, z1, z1', z3]) rfl ?_
    exact ⟨rfl, (by repeat' (first | (with_reducible refine bset ?_ ?_) | (with_reducible exact Below.refl _ _) | (with_reducible assumption) | (with_reducible refine bdrewN ?_ _) | (with_reducible refine bdrew ?_) | (with_reducible refine balloc0 ?_) | (with_reducible refine balloc ?_ ?_) | (with_reducible apply btrans0; rotate_left; with_reducible assumption) | (with_reducible apply btrans; rotate_left; with_reducible assumption) | exact Below.refl _ _ | assumption | (apply btrans0; rotate_left; assumption) | (apply btrans; rotate_left; assumption) | (simp; done) | omega | (simp; omega)))⟩
  · have z' : (E != 0) = true := by simpa using z
    have hr : spanR b = (0, 0, 1) := by unfold spanR; rw [hE, if_pos z]
    rw [hr]
    clear hr hE z
    go_enter Try.func22, Try.ntmps22
    simp only [bunC]
    go_wp2_with fail
    refine (check_any b _ _ (HR.out.below (C := w.heap.size) (by repeat' (first | (with_reducible refine bset ?_ ?_) | (with_reducible exact Below.refl _ _) | (with_reducible assumption) | (with_reducible refine bdrewN ?_ _) | (with_reducible refine bdrew ?_) | (with_reducible refine balloc0 ?_) | (with_reducible refine balloc ?_ ?_) | (with_reducible apply btrans0; rotate_left; with_reducible assumption) | (with_reducible apply btrans; rotate_left; with_reducible assumption) | exact Below.refl _ _ | assumption | (apply btrans0; rotate_left; assumption) | (apply btrans; rotate_left; assumption) | (simp; done) | omega | (simp; omega))) (Nat.le_refl _) (by first | omega | (simp; done) | (simp; omega))) HF.out).mono ?_
    rintro e w1 ⟨rfl, hb1⟩
    rw [HE.out]
    obtain ⟨k1, f1⟩ := bcell hb1
    have z1 : w.heap.size + 1 < w1.heap.size := by have := hb1.size; simp at this; omega
    go_wp2
    refine bodyPost_ret (v := .tuple #[.agg #[.int .i64 0, .int .i64 0], .int .i64 1]) (by simp [results, Try.results22, go_sem, World.cell?_setCell_same', k1, z1]) rfl ?_
    exact ⟨rfl, (by repeat' (first | (with_reducible refine bset ?_ ?_) | (with_reducible exact Below.refl _ _) | (with_reducible assumption) | (with_reducible refine bdrewN ?_ _) | (with_reducible refine bdrew ?_) | (with_reducible refine balloc0 ?_) | (with_reducible refine balloc ?_ ?_) | (with_reducible apply btrans0; rotate_left; with_reducible assumption) | (with_reducible apply btrans; rotate_left; with_reducible assumption) | exact Below.refl _ _ | assumption | (apply btrans0; rotate_left; assumption) | (apply btrans; rotate_left; assumption) | (simp; done) | omega | (simp; omega)))⟩
end Go.Proofs.Ytibfchdhppdccaa
