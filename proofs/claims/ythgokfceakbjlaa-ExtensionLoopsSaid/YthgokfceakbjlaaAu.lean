/- Layer 14, the reference: data, node, fits, has. -/
import Derived.Test.YthgokfceakbjlaaAl
set_option linter.unusedVariables false
set_option linter.unusedSimpArgs false
namespace Go.Proofs.Ythgokfceakbjlaa
open Go Go.RowKit
attribute [local go_sem] B_getElem B_size B_app B_extract B_get B_toList

/-- the data of a block of a kind -/
def dataS (b : Bun) (k : Int) : List UInt8 × Int := match findS b.blocks k with
  | (x, true) => (x.data, 0)
  | (_, false) => ([], 7)
set_option maxRecDepth 100000 in
set_option maxHeartbeats 4000000 in
theorem rdata_any (b : Bun) (u : Value) (k : Int) (w : World) (h : RBlks w w.heap.size u b.blocks) :
    Calls Try.prog 62 #[.agg (bunC b u).toArray, .int .i64 k] w fun e w' => e = .returned (.tuple #[.string (B (dataS b k).1), .int .i64 (dataS b k).2]) ∧ Below w.heap.size w w' := by
  have HR := Lib.hid h
  obtain ⟨a, c, rfl, h1, h2, h3, h4⟩ := h
  clear h1 h2 h3 h4
  obtain ⟨⟨x, q⟩, hf⟩ : ∃ q, findS b.blocks k = q := ⟨_, rfl⟩
  obtain ⟨xk, xf, xd⟩ := x
  have HFI := Lib.hid hf
  obtain ⟨⟨D, E⟩, hd⟩ : ∃ q, dataS b k = q := ⟨_, rfl⟩
  rw [hd]
  unfold dataS at hd
  rw [hf] at hd
  cases q with
  | false =>
    simp only [Prod.mk.injEq] at hd
    obtain ⟨rfl, rfl⟩ := hd
    clear hf
    go_enter Try.func62, Try.ntmps62
    simp only [bunC]
    go_wp2_with fail
    refine (rfind_any b.blocks _ k _ (HR.out.below' (by repeat' (first | with_reducible (first | refine bset ?_ ?_ | exact Below.refl _ _ | assumption | refine bdrewN ?_ _ | refine bdrew ?_ | refine balloc0 ?_ | refine balloc ?_ ?_ | (apply btrans0; rotate_left; assumption) | (apply btrans; rotate_left; assumption)) | exact Below.refl _ _ | assumption | (apply btrans0; rotate_left; assumption) | (apply btrans; rotate_left; assumption) | (simp; done) | omega | (simp; omega))))).mono ?_
    rw [HFI.out]
    simp only
    rintro e w1 ⟨rfl, hb1⟩
    go_wp2_with fail
    go_ret2
    exact ⟨rfl, (by repeat' (first | with_reducible (first | refine bset ?_ ?_ | exact Below.refl _ _ | assumption | refine bdrewN ?_ _ | refine bdrew ?_ | refine balloc0 ?_ | refine balloc ?_ ?_ | (apply btrans0; rotate_left; assumption) | (apply btrans; rotate_left; assumption)) | exact Below.refl _ _ | assumption | (apply btrans0; rotate_left; assumption) | (apply btrans; rotate_left; assumption) | (simp; done) | omega | (simp; omega)))⟩
  | true =>
    simp only [Prod.mk.injEq] at hd
    obtain ⟨rfl, rfl⟩ := hd
    clear hf
    go_enter Try.func62, Try.ntmps62
    simp only [bunC]
    go_wp2_with fail
    refine (rfind_any b.blocks _ k _ (HR.out.below' (by repeat' (first | with_reducible (first | refine bset ?_ ?_ | exact Below.refl _ _ | assumption | refine bdrewN ?_ _ | refine bdrew ?_ | refine balloc0 ?_ | refine balloc ?_ ?_ | (apply btrans0; rotate_left; assumption) | (apply btrans; rotate_left; assumption)) | exact Below.refl _ _ | assumption | (apply btrans0; rotate_left; assumption) | (apply btrans; rotate_left; assumption) | (simp; done) | omega | (simp; omega))))).mono ?_
    rw [HFI.out]
    simp only
    rintro e w1 ⟨rfl, hb1⟩
    go_wp2_with fail
    go_ret2
    exact ⟨rfl, (by repeat' (first | with_reducible (first | refine bset ?_ ?_ | exact Below.refl _ _ | assumption | refine bdrewN ?_ _ | refine bdrew ?_ | refine balloc0 ?_ | refine balloc ?_ ?_ | (apply btrans0; rotate_left; assumption) | (apply btrans; rotate_left; assumption)) | exact Below.refl _ _ | assumption | (apply btrans0; rotate_left; assumption) | (apply btrans; rotate_left; assumption) | (simp; done) | omega | (simp; omega)))⟩
set_option maxHeartbeats 400000 in
theorem rnode_any (n : Int) (w : World) : Calls Try.prog 44 #[.int .i64 n] w fun e w' => e = .returned (.bool (nodeB n)) ∧ w' = w := by
  have HD : Hid (nodeB n = decide (0 ≤ n ∧ n < 16)) := Lib.hid rfl
  go_enter Try.func44, Try.ntmps44
  go_wp2
  all_goals
    go_ret
    refine ⟨ret_bool ?_, rfl⟩
    rw [HD.out]
    first | (symm; rw [decide_eq_false_iff_not]; (try simp only [Bool.not_eq_true', Bool.not_eq_false', decide_eq_true_eq, decide_eq_false_iff_not, beq_iff_eq, beq_eq_false_iff_ne, bne_iff_ne, bne_eq_false_iff_eq, ne_eq, Bool.and_eq_true, Bool.or_eq_true, Bool.and_eq_false_imp, Bool.or_eq_false_iff] at *); omega) | ((try simp only [Bool.not_eq_true', Bool.not_eq_false', decide_eq_true_eq, decide_eq_false_iff_not, beq_iff_eq, beq_eq_false_iff_ne, bne_iff_ne, bne_eq_false_iff_eq, ne_eq, Bool.and_eq_true, Bool.or_eq_true, Bool.and_eq_false_imp, Bool.or_eq_false_iff] at *); rw [Bool.eq_iff_iff]; simp only [decide_eq_true_eq]; omega)
def fitB (x y : Int) : Bool := decide (1 ≤ x ∧ x ≤ 255 ∧ 0 ≤ y ∧ y ≤ x)
set_option maxHeartbeats 400000 in
theorem rfits_any (x y : Int) (w : World) : Calls Try.prog 40 #[.int .i64 x, .int .i64 y] w fun e w' => e = .returned (.bool (fitB x y)) ∧ w' = w := by
  have HD : Hid (fitB x y = decide (1 ≤ x ∧ x ≤ 255 ∧ 0 ≤ y ∧ y ≤ x)) := Lib.hid rfl
  go_enter Try.func40, Try.ntmps40
  go_wp2
  all_goals
    go_ret
    refine ⟨ret_bool ?_, rfl⟩
    rw [HD.out]
    first | (symm; rw [decide_eq_false_iff_not]; (try simp only [Bool.not_eq_true', Bool.not_eq_false', decide_eq_true_eq, decide_eq_false_iff_not, beq_iff_eq, beq_eq_false_iff_ne, bne_iff_ne, bne_eq_false_iff_eq, ne_eq, Bool.and_eq_true, Bool.or_eq_true, Bool.and_eq_false_imp, Bool.or_eq_false_iff] at *); omega) | ((try simp only [Bool.not_eq_true', Bool.not_eq_false', decide_eq_true_eq, decide_eq_false_iff_not, beq_iff_eq, beq_eq_false_iff_ne, bne_iff_ne, bne_eq_false_iff_eq, ne_eq, Bool.and_eq_true, Bool.or_eq_true, Bool.and_eq_false_imp, Bool.or_eq_false_iff] at *); rw [Bool.eq_iff_iff]; simp only [decide_eq_true_eq]; omega)
end Go.Proofs.Ythgokfceakbjlaa
