/- Walk of layer 4's awake: the examples of the chapter. -/
import Derived.Test.YtfkdhcfedjbkfaaWh
import Derived.Test.YtfkdhcfedjbkfaaWi
namespace Go.Proofs.Ytfkdhcfedjbkfaa
open Go.RowKit

theorem aw1 : opS add0 (1, 2) (1, 3) = ((5, 6), 0) := by decide +kernel
theorem aw2 : newS 6 (-4) = ((-3, 2), 0) := by decide +kernel
theorem aw3 : opS add0 (1099511627776, 1) (1, 2) = ((0, 0), 5) := by decide +kernel
theorem aw4 : floorS (-3, 2) = -2 := by decide +kernel
theorem aw5 : ceilS (-3, 2) = -1 := by decide +kernel

set_option maxHeartbeats 1600000 in
theorem awake_any (w : World) :
    Calls Try.prog 14 #[] w fun e w' => e = .returned (.bool true) ∧ Below w.heap.size w w' := by
  go_enter Try.func14, Try.ntmps14
  go_wp2_with fail
  refine (add_any 1 2 1 3 5 6 0 _ (by omega) (by omega) (by omega) (by omega) (by omega) (by omega) (by omega) (by omega) aw1).mono ?_
  rintro e w1 ⟨rfl, hb1⟩
  have z1 := hb1.size
  go_wp2_with fail
  refine (new_any 6 (-4) (-3) 2 0 _ (by omega) (by omega) (by omega) (by omega) aw2).mono ?_
  rintro e w2 ⟨rfl, hb2⟩
  obtain ⟨c2, f2⟩ := bcell hb2
  have z2 := hb2.size
  simp at z2
  go_wp2_with fail
  refine (add_any 1099511627776 1 1 2 0 0 5 _ (by omega) (by omega) (by omega) (by omega) (by omega) (by omega) (by omega) (by omega) aw3).mono ?_
  rintro e w3 ⟨rfl, hb3⟩
  obtain ⟨c3, f3⟩ := bcell hb3
  have z3 := hb3.size
  simp at z3
  have l12 : w1.heap.size < w2.heap.size := by omega
  have l13 : w1.heap.size < w3.heap.size := by omega
  have l23 : w2.heap.size < w3.heap.size := by omega
  have e10 : ∀ o, w3.cell? ⟨w1.heap.size, o, none⟩ = (w1.alloc (.cells #[.int .i64 5, .int .i64 6] 23)).cell? ⟨w1.heap.size, o, none⟩ := fun o => by
    rw [c3 _ _ (by simp; omega), World.cell?_alloc_lt _ _ _ (by simp; omega), c2 _ _ (by simp)]
  have e20 : ∀ o, w3.cell? ⟨w2.heap.size, o, none⟩ = (w2.alloc (.cells #[.int .i64 (-3), .int .i64 2] 23)).cell? ⟨w2.heap.size, o, none⟩ := fun o => by
    rw [c3 _ _ (by simp)]
  clear c2 c3 f2 f3 z1 z2 z3
  go_wp2_with fail
  refine (floor_any (-3) 2 (-2) _ (by omega) (by omega) (by omega) (by omega) aw4).mono ?_
  rintro e w4 ⟨rfl, hb4⟩
  obtain ⟨c4, f4⟩ := bcell hb4
  have e24 : ∀ o, w4.cell? ⟨w2.heap.size, o, none⟩ = w3.cell? ⟨w2.heap.size, o, none⟩ := fun o => by
    rw [c4 _ _ (by simp; omega), World.cell?_alloc_lt _ _ _ (by simp; omega)]
  clear c4 f4
  go_wp2_with fail
  refine (ceil_any (-3) 2 (-1) _ (by omega) (by omega) (by omega) (by omega) aw5).mono ?_
  rintro e w5 ⟨rfl, hb5⟩
  go_wp2
  go_ret
  exact ⟨rfl, (by repeat' (first | exact Below.refl _ _ | assumption | (with_reducible refine bdrewN ?_ _) | (with_reducible refine bdrew ?_) | (with_reducible refine bset ?_ ?_) | (with_reducible refine balloc0 ?_) | (with_reducible refine balloc ?_ ?_) | (apply btrans0; rotate_left; assumption) | (apply btrans; rotate_left; assumption) | (simp; done) | omega | (simp; omega)))⟩
end Go.Proofs.Ytfkdhcfedjbkfaa
