/- Layer 2 (crc), the program: table. -/
import Derived.Test.YtdnbegcebloodaaHp
import Derived.Test.YtdnbegcebloodaaDa
set_option linter.unusedVariables false
namespace Go.Proofs.Ytdnbegcebloodaa
open Go Go.RowKit

theorem zero_size : (Try.zeroCells99).size = 256 := by kernel_rfl
theorem arr_size : (Try.prog.info? 99).map (·.size) = some 256 := by kernel_rfl
/-- what table returns -/
def TblPost (w : World) (e : Ending) (w' : World) : Prop := ∃ c : Array Value, e = .returned (.agg c) ∧ c.size = 256 ∧ (∀ j, j < 256 → c[j]? = some (.int .u32 (stps 8 j : Nat))) ∧ Below w.heap.size w w'

set_option maxRecDepth 100000 in
set_option maxHeartbeats 1000000 in
theorem table_any (w : World) :
    Calls Try.prog 88 #[] w (TblPost w) := by
  go_enter Try.func88, Try.ntmps88
  go_wp2
  go_loopw [3] (fun i wr => ∃ (k : Nat) (c : Array Value), k ≤ 256 ∧ i = .int .i64 k ∧ Hid (wr.heap[w.heap.size + 1]? = some (.cells c 99 (0, 0))) ∧ c.size = 256 ∧ Hid (∀ j, j < k → c[j]? = some (.int .u32 (stps 8 j : Nat))) ∧
    Hid (∃ c0 : Array Value, wr.heap[w.heap.size]? = some (.cells c0 99 (0, 0)) ∧ c0.size = 256) ∧ Below w.heap.size w wr ∧ w.heap.size + 1 < wr.heap.size) (fun i _ => 256 - (intOf i).toNat)
  case atStart => exact ⟨0, _, by omega, rfl, Lib.hid (heap_new' (by simp)), zero_size, Lib.hid (by intro j hj; omega), Lib.hid ⟨_, (Below.heap_alloc _ _ _ (by simp)).trans heap_new, zero_size⟩, (by repeat' (first | (with_reducible refine bset ?_ ?_) | (with_reducible exact Below.refl _ _) | (with_reducible assumption) | (with_reducible refine bdrewN ?_ _) | (with_reducible refine bdrew ?_) | (with_reducible refine balloc0 ?_) | (with_reducible refine balloc ?_ ?_) | (with_reducible apply btrans0; rotate_left; with_reducible assumption) | (with_reducible apply btrans; rotate_left; with_reducible assumption) | exact Below.refl _ _ | assumption | (apply btrans0; rotate_left; assumption) | (apply btrans; rotate_left; assumption) | (simp; done) | omega | (simp; omega))), by simp⟩
  case round =>
    obtain ⟨k, c, hk, rfl, HC, hc, HS, H0, hB, hz⟩ := hrel
    by_cases hlt : k < 256
    · go_wp2_with fail
      refine (step_any k _ (by omega)).mono ?_
      rintro e w1 ⟨rfl, rfl⟩
      have ck : w1.cell? ⟨w.heap.size + 1, k, none⟩ = some c[k] := by rw [cellB HC.out]; exact Array.getElem?_eq_getElem (by omega)
      have fk := frozenB HC.out k
      go_wp2
      go_roundw
      case rel =>
        refine ⟨k + 1, _, by omega, by go_num, Lib.hid (setB HC.out _ _), by simpa using hc, Lib.hid (fun j hj => ?_), Lib.hid ?_, (by repeat' (first | (with_reducible refine bset ?_ ?_) | (with_reducible exact Below.refl _ _) | (with_reducible assumption) | (with_reducible refine bdrewN ?_ _) | (with_reducible refine bdrew ?_) | (with_reducible refine balloc0 ?_) | (with_reducible refine balloc ?_ ?_) | (with_reducible apply btrans0; rotate_left; with_reducible assumption) | (with_reducible apply btrans; rotate_left; with_reducible assumption) | exact Below.refl _ _ | assumption | (apply btrans0; rotate_left; assumption) | (apply btrans; rotate_left; assumption) | (simp; done) | omega | (simp; omega))), by simp; omega⟩
        · rw [Array.getElem?_setIfInBounds]
          by_cases h : k = j
          · subst h; rw [if_pos rfl, if_pos (by omega)]
          · rw [if_neg h]; exact HS.out j (by omega)
        · obtain ⟨c0, h1, h2⟩ := H0.out
          exact ⟨c0, by rw [Below.heap_setCell _ _ _ _ (by show w.heap.size ≠ w.heap.size + 1; omega)]; exact h1, h2⟩
      case measure => simp [intOf]; omega
    · obtain rfl : k = 256 := by omega
      obtain ⟨c0, g0, h0⟩ := H0.out
      have h1c : c.all (·.oneCell') = true := by
        rw [Array.all_eq_true]
        intro i hi
        have := HS.out i (by omega)
        rw [Array.getElem?_eq_getElem hi] at this
        injection this with this
        rw [this]; rfl
      have z0 : w.heap.size < wr.heap.size := by omega
      go_wp2
      refine wp_load_row 99 _ rfl _ rfl _ c (0, 0) _ HC.out Try.underlying99 rfl (by rw [arr_size, hc]) ?_
      go_wp2
      have hst : (storeCells ⟨w.heap.size, 0, none⟩ c.toList).run Try.prog wr = .ok () (wr.setRow w.heap.size c) := by
        have h := run_storeCells_from (P := Try.prog) w.heap.size 99 c.toList 0 c0 wr g0 (by simp; omega) (fun v hv => (Array.all_eq_true_iff_forall_mem.1 h1c) v (by simpa using hv))
        simpa using h
      rw [hst]
      have gS := setRow_heap wr w.heap.size c0 c _ _ g0
      have hBS : Below w.heap.size w (wr.setRow w.heap.size c) := ⟨hB.os, hB.tape, hB.output, by have := hB.size; simpa [World.setRow] using this, fun k hk => by
        rw [← hB.block k hk]
        simp only [World.setRow, Array.getElem?_modify]
        rw [if_neg (by omega)]⟩
      have hB2 := Lib.hid hBS
      have gS2 := Lib.hid gS
      clear hst g0 hBS gS
      generalize wr.setRow w.heap.size c = W at *
      go_wp2
      refine bodyPost_ret (v := .agg c) (results_cell_row rfl _ _ w.heap.size _ c (0, 0) _ rfl gS2.out Try.underlying99 rfl (by rw [arr_size, hc])) rfl ?_
      exact ⟨c, rfl, hc, HS.out, hB2.out⟩
end Go.Proofs.Ytdnbegcebloodaa
