/- Layer 20 (report): the law's great; Wanted, the program's. -/
import Derived.Test.YtcmkpnjbnjbegaaDoorVg
set_option linter.unusedVariables false
set_option linter.unusedSimpArgs false
namespace Go.Proofs.YtcmkpnjbnjbegaaDoor
open Go Go.RowKit
attribute [local go_sem] B_getElem B_size B_app B_extract B_get B_toList

theorem RBlks.below' {w w' : World} {v : Value} {l : List Blk} (h : RBlks w w.heap.size v l) (k : Below w.heap.size w w') : RBlks w' w'.heap.size v l := h.below k (Nat.le_refl _) k.size
set_option maxRecDepth 100000 in
set_option maxHeartbeats 1000000 in
theorem lgreat_any (b : Bun) (u : Value) (w : World) (h : RBlks w w.heap.size u b.blocks) (hf : Fits b) :
    Calls Tryd.prog 12 #[.agg (bunC b u).toArray] w (AnyBool w) := by
  have hp := hf.1
  unfold maxLen at hp
  have HF := Lib.hid hf
  have HR := Lib.hid h
  obtain ⟨a, c, rfl, h1, h2, h3, h4⟩ := h
  clear h1 h2 h3 h4 hf
  go_enter Tryd.func12, Tryd.ntmps12
  simp only [bunC]
  go_wp2_with fail
  refine (great_any b.blocks _ _ (HR.out.below' (by repeat' (first | (with_reducible refine bset ?_ ?_) | (with_reducible exact Below.refl _ _) | (with_reducible assumption) | (with_reducible refine bdrewN ?_ _) | (with_reducible refine bdrew ?_) | (with_reducible refine balloc0 ?_) | (with_reducible refine balloc ?_ ?_) | (with_reducible apply btrans0; rotate_left; with_reducible assumption) | (with_reducible apply btrans; rotate_left; with_reducible assumption) | exact Below.refl _ _ | assumption | (apply btrans0; rotate_left; assumption) | (apply btrans; rotate_left; assumption) | (simp; done) | omega | (simp; omega)))) HF.out.2).mono ?_
  rintro e w1 ⟨g, rfl, hb1⟩
  cases g
  all_goals
    go_wp2
    all_goals
      go_ret
      exact ⟨_, rfl, (by repeat' (first | (with_reducible refine bset ?_ ?_) | (with_reducible exact Below.refl _ _) | (with_reducible assumption) | (with_reducible refine bdrewN ?_ _) | (with_reducible refine bdrew ?_) | (with_reducible refine balloc0 ?_) | (with_reducible refine balloc ?_ ?_) | (with_reducible apply btrans0; rotate_left; with_reducible assumption) | (with_reducible apply btrans; rotate_left; with_reducible assumption) | exact Below.refl _ _ | assumption | (apply btrans0; rotate_left; assumption) | (apply btrans; rotate_left; assumption) | (simp; done) | omega | (simp; omega)))⟩
def maskS (k : Nat) : Int := [0, 8, 8, 16, 32, 1, 1].getD k 0
/-- are reports of a kind wanted about a bundle -/
def wantB (b : Bun) (kind : Int) : Bool := decide (0 ≤ kind ∧ kind < 7) && (decide (chkE b = 0) && (!hasF b.flags 4 && (bits .and .i64 b.flags (maskS kind.toNat) != 0)))
def MskC : Array Value := #[.int .i64 0, .int .i64 8, .int .i64 8, .int .i64 16, .int .i64 32, .int .i64 1, .int .i64 1]
theorem msk_get (k : Nat) (h : k < 7) : MskC[k]? = some (.int .i64 (maskS k)) := by
  rcases (show k = 0 ∨ k = 1 ∨ k = 2 ∨ k = 3 ∨ k = 4 ∨ k = 5 ∨ k = 6 by omega) with rfl | rfl | rfl | rfl | rfl | rfl | rfl <;> rfl
theorem chk_flags {b : Bun} (h : chkE b = 0) : 0 ≤ b.flags ∧ b.flags ≤ 127 := by
  obtain ⟨_, h2, _⟩ := chkE_zero h
  unfold flB at h2
  simp only [Bool.and_eq_true, decide_eq_true_eq] at h2
  exact h2.1.1
set_option maxRecDepth 100000 in
set_option maxHeartbeats 4000000 in
theorem wanted_any (b : Bun) (u : Value) (kind : Int) (w : World) (h : RBlks w w.heap.size u b.blocks) (hf : Fits b) :
    Calls Tryd.prog 15 #[.agg (bunC b u).toArray, .int .i64 kind] w fun e w' => e = .returned (.bool (wantB b kind)) ∧ Below w.heap.size w w' := by
  have HF := Lib.hid hf
  have HR := Lib.hid h
  obtain ⟨a, c, rfl, h1, h2, h3, h4⟩ := h
  clear h1 h2 h3 h4 hf
  by_cases k1 : kind < 0
  · have e : wantB b kind = false := by unfold wantB; rw [decide_eq_false (by omega), Bool.false_and]
    rw [e]
    clear e
    go_enter Tryd.func15, Tryd.ntmps15
    simp only [bunC]
    go_wp2
    go_ret
    exact ⟨rfl, (by repeat' (first | (with_reducible refine bset ?_ ?_) | (with_reducible exact Below.refl _ _) | (with_reducible assumption) | (with_reducible refine bdrewN ?_ _) | (with_reducible refine bdrew ?_) | (with_reducible refine balloc0 ?_) | (with_reducible refine balloc ?_ ?_) | (with_reducible apply btrans0; rotate_left; with_reducible assumption) | (with_reducible apply btrans; rotate_left; with_reducible assumption) | exact Below.refl _ _ | assumption | (apply btrans0; rotate_left; assumption) | (apply btrans; rotate_left; assumption) | (simp; done) | omega | (simp; omega)))⟩
  have k2 : 0 ≤ kind := by omega
  by_cases k3 : 7 ≤ kind
  · have e : wantB b kind = false := by unfold wantB; rw [decide_eq_false (by omega), Bool.false_and]
    rw [e]
    clear e
    go_enter Tryd.func15, Tryd.ntmps15
    simp only [bunC]
    go_wp2
    go_ret
    exact ⟨rfl, (by repeat' (first | (with_reducible refine bset ?_ ?_) | (with_reducible exact Below.refl _ _) | (with_reducible assumption) | (with_reducible refine bdrewN ?_ _) | (with_reducible refine bdrew ?_) | (with_reducible refine balloc0 ?_) | (with_reducible refine balloc ?_ ?_) | (with_reducible apply btrans0; rotate_left; with_reducible assumption) | (with_reducible apply btrans; rotate_left; with_reducible assumption) | exact Below.refl _ _ | assumption | (apply btrans0; rotate_left; assumption) | (apply btrans; rotate_left; assumption) | (simp; done) | omega | (simp; omega)))⟩
  have k4 : kind < 7 := by omega
  obtain ⟨kn, rfl⟩ : ∃ k : Nat, kind = k := ⟨kind.toNat, by omega⟩
  have kk : kn < 7 := by omega
  obtain ⟨E, hE⟩ : ∃ q, chkE b = q := ⟨_, rfl⟩
  have HE := Lib.hid hE
  by_cases z : E = 0
  case neg =>
    have z' : (E != 0) = true := by rw [bne_iff_ne]; exact z
    have e : wantB b kn = false := by unfold wantB; rw [hE, decide_eq_false z, Bool.false_and, Bool.and_false]
    rw [e]
    clear e z hE
    go_enter Tryd.func15, Tryd.ntmps15
    simp only [bunC]
    go_wp2_with fail
    refine (check_any b _ _ (HR.out.below' (by repeat' (first | (with_reducible refine bset ?_ ?_) | (with_reducible exact Below.refl _ _) | (with_reducible assumption) | (with_reducible refine bdrewN ?_ _) | (with_reducible refine bdrew ?_) | (with_reducible refine balloc0 ?_) | (with_reducible refine balloc ?_ ?_) | (with_reducible apply btrans0; rotate_left; with_reducible assumption) | (with_reducible apply btrans; rotate_left; with_reducible assumption) | exact Below.refl _ _ | assumption | (apply btrans0; rotate_left; assumption) | (apply btrans; rotate_left; assumption) | (simp; done) | omega | (simp; omega)))) HF.out).mono ?_
    rw [HE.out]
    rintro e w2 ⟨rfl, hb2⟩
    go_wp2
    go_ret
    exact ⟨rfl, (by repeat' (first | (with_reducible refine bset ?_ ?_) | (with_reducible exact Below.refl _ _) | (with_reducible assumption) | (with_reducible refine bdrewN ?_ _) | (with_reducible refine bdrew ?_) | (with_reducible refine balloc0 ?_) | (with_reducible refine balloc ?_ ?_) | (with_reducible apply btrans0; rotate_left; with_reducible assumption) | (with_reducible apply btrans; rotate_left; with_reducible assumption) | exact Below.refl _ _ | assumption | (apply btrans0; rotate_left; assumption) | (apply btrans; rotate_left; assumption) | (simp; done) | omega | (simp; omega)))⟩
  subst z
  obtain ⟨f1, f2⟩ := chk_flags hE
  obtain ⟨a1, -, -⟩ := and_flag b.flags f1 f2
  obtain ⟨p, hp⟩ : ∃ q, hasF b.flags 4 = q := ⟨_, rfl⟩
  rw [hp] at a1
  obtain ⟨M, hM⟩ : ∃ q, maskS kn = q := ⟨_, rfl⟩
  have hm := msk_get kn kk
  rw [hM] at hm
  cases p with
  | true =>
    have e : wantB b kn = false := by unfold wantB; rw [hp]; simp
    rw [e]
    clear e hE hp hM hm
    go_enter Tryd.func15, Tryd.ntmps15
    simp only [bunC]
    go_wp2_with fail
    refine (check_any b _ _ (HR.out.below' (by repeat' (first | (with_reducible refine bset ?_ ?_) | (with_reducible exact Below.refl _ _) | (with_reducible assumption) | (with_reducible refine bdrewN ?_ _) | (with_reducible refine bdrew ?_) | (with_reducible refine balloc0 ?_) | (with_reducible refine balloc ?_ ?_) | (with_reducible apply btrans0; rotate_left; with_reducible assumption) | (with_reducible apply btrans; rotate_left; with_reducible assumption) | exact Below.refl _ _ | assumption | (apply btrans0; rotate_left; assumption) | (apply btrans; rotate_left; assumption) | (simp; done) | omega | (simp; omega)))) HF.out).mono ?_
    rw [HE.out]
    rintro e w2 ⟨rfl, hb2⟩
    have A2 : w2.heap[w.heap.size]? = some (.cells (bunC b (.slice a b.blocks.length c)).toArray 36 (0, 0)) := (hb2.block _ (by simp; omega)).trans ((Below.heap_alloc _ _ _ (by simp)).trans heap_new)
    have ca := fun o => cellB A2 o
    simp only [bunC] at ca
    have z2 : w.heap.size < w2.heap.size := by have := hb2.size; simp at this; omega
    go_wp2
    go_ret
    exact ⟨rfl, (by repeat' (first | (with_reducible refine bset ?_ ?_) | (with_reducible exact Below.refl _ _) | (with_reducible assumption) | (with_reducible refine bdrewN ?_ _) | (with_reducible refine bdrew ?_) | (with_reducible refine balloc0 ?_) | (with_reducible refine balloc ?_ ?_) | (with_reducible apply btrans0; rotate_left; with_reducible assumption) | (with_reducible apply btrans; rotate_left; with_reducible assumption) | exact Below.refl _ _ | assumption | (apply btrans0; rotate_left; assumption) | (apply btrans; rotate_left; assumption) | (simp; done) | omega | (simp; omega)))⟩
  | false =>
    have e : wantB b kn = (bits .and .i64 b.flags M != 0) := by
      unfold wantB; rw [hp, hE, Int.toNat_natCast, hM, decide_eq_true (by omega)]; simp
    rw [e]
    clear e hE hp hM
    go_enter Tryd.func15, Tryd.ntmps15
    simp only [bunC]
    go_wp2_with fail
    refine (check_any b _ _ (HR.out.below' (by repeat' (first | (with_reducible refine bset ?_ ?_) | (with_reducible exact Below.refl _ _) | (with_reducible assumption) | (with_reducible refine bdrewN ?_ _) | (with_reducible refine bdrew ?_) | (with_reducible refine balloc0 ?_) | (with_reducible refine balloc ?_ ?_) | (with_reducible apply btrans0; rotate_left; with_reducible assumption) | (with_reducible apply btrans; rotate_left; with_reducible assumption) | exact Below.refl _ _ | assumption | (apply btrans0; rotate_left; assumption) | (apply btrans; rotate_left; assumption) | (simp; done) | omega | (simp; omega)))) HF.out).mono ?_
    rw [HE.out]
    rintro e w2 ⟨rfl, hb2⟩
    have hB2 : Below w.heap.size w w2 := (by repeat' (first | (with_reducible refine bset ?_ ?_) | (with_reducible exact Below.refl _ _) | (with_reducible assumption) | (with_reducible refine bdrewN ?_ _) | (with_reducible refine bdrew ?_) | (with_reducible refine balloc0 ?_) | (with_reducible refine balloc ?_ ?_) | (with_reducible apply btrans0; rotate_left; with_reducible assumption) | (with_reducible apply btrans; rotate_left; with_reducible assumption) | exact Below.refl _ _ | assumption | (apply btrans0; rotate_left; assumption) | (apply btrans; rotate_left; assumption) | (simp; done) | omega | (simp; omega)))
    have A2 : w2.heap[w.heap.size]? = some (.cells (bunC b (.slice a b.blocks.length c)).toArray 36 (0, 0)) := (hb2.block _ (by simp; omega)).trans ((Below.heap_alloc _ _ _ (by simp)).trans heap_new)
    have X2 : w2.heap[w.heap.size + 1]? = some (.cells MskC 59 (0, 0)) := (hb2.block _ (by simp)).trans (heap_new' (by simp))
    have ca := fun o => cellB A2 o
    simp only [bunC] at ca
    have cx : w2.cell? ⟨w.heap.size + 1, kn, none⟩ = some (.int .i64 M) := by rw [cellB X2 kn]; exact hm
    have z2 : w.heap.size + 1 < w2.heap.size := by have := hb2.size; simp at this; omega
    have z3 : w.heap.size < w2.heap.size := by omega
    clear A2 X2 hb2 hm
    go_wp2
    refine wp_region_plan (fun V => Below (w2).heap.size (w2) V) [0, 1, 0, 0, 1, 0, 0, 0] [0, 1, 2, 3, 4, 5, 6, 7] (by kernel_rfl) (by kernel_rfl) ?_ ?_
    case refine_1 => exact (by repeat' (first | (with_reducible refine bset ?_ ?_) | (with_reducible exact Below.refl _ _) | (with_reducible assumption) | (with_reducible refine bdrewN ?_ _) | (with_reducible refine bdrew ?_) | (with_reducible refine balloc0 ?_) | (with_reducible refine balloc ?_ ?_) | (with_reducible apply btrans0; rotate_left; with_reducible assumption) | (with_reducible apply btrans; rotate_left; with_reducible assumption) | exact Below.refl _ _ | assumption | (apply btrans0; rotate_left; assumption) | (apply btrans; rotate_left; assumption) | (simp; done) | omega | (simp; omega)))
    (iterate 8 (first | (refine plan_held rfl (by decide) (by rfl) (fun w1 hS => by (try (obtain ⟨_, _⟩ := bcell (hS rfl))); go_simp; rfl) ?_; simp only [Act.put, List.setIfInBounds_toArray, List.set_cons_zero, List.set_cons_succ]) | (refine plan_skip rfl (by decide) (by rfl) ?_; simp only [Act.put, List.setIfInBounds_toArray, List.set_cons_zero, List.set_cons_succ])))
    refine plan_done ?_
    go_wp2
    go_ret
    exact ⟨rfl, (by repeat' (first | (with_reducible refine bset ?_ ?_) | (with_reducible exact Below.refl _ _) | (with_reducible assumption) | (with_reducible refine bdrewN ?_ _) | (with_reducible refine bdrew ?_) | (with_reducible refine balloc0 ?_) | (with_reducible refine balloc ?_ ?_) | (with_reducible apply btrans0; rotate_left; with_reducible assumption) | (with_reducible apply btrans; rotate_left; with_reducible assumption) | exact Below.refl _ _ | assumption | (apply btrans0; rotate_left; assumption) | (apply btrans; rotate_left; assumption) | (simp; done) | omega | (simp; omega)))⟩
end Go.Proofs.YtcmkpnjbnjbegaaDoor
