/- The examples of chapter 12. -/
import Derived.Test.YtdnbegcebloodaaEf
set_option linter.unusedVariables false
set_option linter.unusedSimpArgs false
namespace Go.Proofs.Ytdnbegcebloodaa
open Go Go.RowKit
attribute [local go_sem] B_getElem B_size B_app B_extract B_get B_toList

theorem RBlks.lit1 {w : World} {N g : Nat} {t : TypeId} {x : Blk} (h : w.heap[g]? = some (.cells #[.int .i64 x.kind, .int .i64 x.flags, .string (B x.data)] t (0, 0))) (hg : g < N) : RBlks w N (.slice (some ⟨g, 0, none⟩) 1 1) [x] :=
  ⟨_, 1, rfl, by simp, by simp [maxLen], (fun h => by cases h), fun _ => ⟨g, 0, rfl, hg, fun i y hy => by
    match i, hy with
    | 0, hy =>
      simp at hy
      subst hy
      exact ⟨cellB h 0, cellB h 1, cellB h 2⟩
    | i + 1, hy => simp at hy⟩⟩
theorem RInts.lit3 {w : World} {N g : Nat} {t : TypeId} {a b c : Int} (h : w.heap[g]? = some (.cells #[.int .i64 a, .int .i64 b, .int .i64 c] t (0, 0))) (hg : g < N) : RInts w N (.slice (some ⟨g, 0, none⟩) 3 3) [a, b, c] :=
  ⟨_, 3, rfl, by simp, by simp [maxLen], (fun h => by cases h), fun _ => ⟨g, 0, rfl, hg, fun i y hy => by
    match i, hy with
    | 0, hy => simp at hy; subst hy; exact cellB h 0
    | 1, hy => simp at hy; subst hy; exact cellB h 1
    | 2, hy => simp at hy; subst hy; exact cellB h 2
    | i + 3, hy => simp at hy⟩⟩
def xb (f : Int) : Blk := ⟨7, f, [97, 98]⟩
theorem aw1 : prS [xb 4] [1, 2, 3] = ([], false, 0) := by simp [prS, chkAll, caE, blkE, xb, wit, hasF]
theorem aw2 : prS [xb 8] [1, 2, 3] = ([xb 8], true, 0) := by simp [prS, chkAll, caE, blkE, xb, wit, hasF]
theorem aw3 : prS [xb 10] [1, 2, 3] = ([], true, 28) := by simp [prS, chkAll, caE, blkE, xb, wit, hasF]

set_option maxRecDepth 100000 in
set_option maxHeartbeats 1000000 in
theorem awake_any (w : World) : Calls Try.prog 13 #[] w (Says w) := by
  have hd : ∀ f, ∀ x ∈ [xb f], x.data.length ≤ maxLen := fun f x hx => by simp at hx; subst hx; simp [xb, maxLen]
  have HD := Lib.hid hd
  clear hd
  go_enter Try.func13, Try.ntmps13
  go_wp2_with fail
  refine (process_any [xb 4] [1, 2, 3] _ _ _ (RBlks.lit1 (x := xb 4) (t := 29) (by exact heap_new' (by simp)) (by simp)) (RInts.lit3 (t := 3) (by exact ((Below.heap_alloc _ _ _ (by simp; omega)).trans (Below.heap_alloc _ _ _ (by simp))).trans heap_new) (by simp; omega)) (HD.out 4)).mono ?_
  rw [aw1]
  rintro e w1 ⟨v1, rfl, hr1, hb1⟩
  obtain ⟨a1, c1, rfl, _⟩ := hr1
  have z1 : w.heap.size + 2 < w1.heap.size := by have := hb1.size; simp at this; omega
  have hB1 : Below w.heap.size w w1 := (by repeat' (first | (with_reducible refine bset ?_ ?_) | (with_reducible exact Below.refl _ _) | (with_reducible assumption) | (with_reducible refine bdrewN ?_ _) | (with_reducible refine bdrew ?_) | (with_reducible refine balloc0 ?_) | (with_reducible refine balloc ?_ ?_) | (with_reducible apply btrans0; rotate_left; with_reducible assumption) | (with_reducible apply btrans; rotate_left; with_reducible assumption) | exact Below.refl _ _ | assumption | (apply btrans0; rotate_left; assumption) | (apply btrans; rotate_left; assumption) | (simp; done) | omega | (simp; omega)))
  have I1 : w1.heap[w.heap.size]? = some (.cells #[.int .i64 1, .int .i64 2, .int .i64 3] 3 (0, 0)) := (hb1.block _ (by simp; omega)).trans (((Below.heap_alloc _ _ _ (by simp; omega)).trans (Below.heap_alloc _ _ _ (by simp))).trans heap_new)
  have B1 : w1.heap[w.heap.size + 1]? = some (.cells #[.int .i64 7, .int .i64 4, .string (B [97, 98])] 29 (0, 0)) := (hb1.block _ (by simp)).trans ((Below.heap_alloc _ _ _ (by simp)).trans (heap_new' (by simp)))
  clear hb1
  have cb := fun o => cellB B1 o
  have fb := fun o => frozenB B1 o
  have z1' : w.heap.size + 1 < w1.heap.size := by omega
  go_wp2_with fail
  clear cb fb
  have I2 : (w1.setCell ⟨w.heap.size + 1, 1, none⟩ (.int .i64 8)).heap[w.heap.size]? = some (.cells #[.int .i64 1, .int .i64 2, .int .i64 3] 3 (0, 0)) := (Below.heap_setCell _ _ _ _ (by show w.heap.size ≠ w.heap.size + 1; omega)).trans I1
  have B2 : (w1.setCell ⟨w.heap.size + 1, 1, none⟩ (.int .i64 8)).heap[w.heap.size + 1]? = some (.cells #[.int .i64 7, .int .i64 8, .string (B [97, 98])] 29 (0, 0)) := by simpa using setB B1 1 (.int .i64 8)
  have hB2 : Below w.heap.size w (w1.setCell ⟨w.heap.size + 1, 1, none⟩ (.int .i64 8)) := (by repeat' (first | (with_reducible refine bset ?_ ?_) | (with_reducible exact Below.refl _ _) | (with_reducible assumption) | (with_reducible refine bdrewN ?_ _) | (with_reducible refine bdrew ?_) | (with_reducible refine balloc0 ?_) | (with_reducible refine balloc ?_ ?_) | (with_reducible apply btrans0; rotate_left; with_reducible assumption) | (with_reducible apply btrans; rotate_left; with_reducible assumption) | exact Below.refl _ _ | assumption | (apply btrans0; rotate_left; assumption) | (apply btrans; rotate_left; assumption) | (simp; done) | omega | (simp; omega)))
  have sz2 : (w1.setCell ⟨w.heap.size + 1, 1, none⟩ (.int .i64 8)).heap.size = w1.heap.size := by simp
  obtain ⟨V, hV⟩ : ∃ V, w1.setCell ⟨w.heap.size + 1, 1, none⟩ (.int .i64 8) = V := ⟨_, rfl⟩
  rw [hV] at I2 B2 hB2 sz2 ⊢
  rw [← sz2]
  clear I1 B1 hB1 hV
  refine (process_any [xb 8] [1, 2, 3] _ _ _ (RBlks.lit1 (x := xb 8) (t := 29) (by exact heap_new) (by simp)) (RInts.lit3 (t := 3) (by exact (Below.heap_alloc _ _ _ (by omega)).trans I2) (by simp; omega)) (HD.out 8)).mono ?_
  rw [aw2]
  rintro e w2 ⟨v2, rfl, hr2, hb2⟩
  obtain ⟨a2, c2, rfl, _⟩ := hr2
  have z2 : w.heap.size + 1 < w2.heap.size := by have := hb2.size; simp at this; omega
  have z2' : w.heap.size < w2.heap.size := by omega
  have hB3 : Below w.heap.size w w2 := (by repeat' (first | (with_reducible refine bset ?_ ?_) | (with_reducible exact Below.refl _ _) | (with_reducible assumption) | (with_reducible refine bdrewN ?_ _) | (with_reducible refine bdrew ?_) | (with_reducible refine balloc0 ?_) | (with_reducible refine balloc ?_ ?_) | (with_reducible apply btrans0; rotate_left; with_reducible assumption) | (with_reducible apply btrans; rotate_left; with_reducible assumption) | exact Below.refl _ _ | assumption | (apply btrans0; rotate_left; assumption) | (apply btrans; rotate_left; assumption) | (simp; done) | omega | (simp; omega)))
  have I3 : w2.heap[w.heap.size]? = some (.cells #[.int .i64 1, .int .i64 2, .int .i64 3] 3 (0, 0)) := (hb2.block _ (by simp; omega)).trans ((Below.heap_alloc _ _ _ (by omega)).trans I2)
  have B3 : w2.heap[w.heap.size + 1]? = some (.cells #[.int .i64 7, .int .i64 8, .string (B [97, 98])] 29 (0, 0)) := (hb2.block _ (by simp; omega)).trans ((Below.heap_alloc _ _ _ (by omega)).trans B2)
  clear hb2 hB2 I2 B2 sz2
  have cb := fun o => cellB B3 o
  have fb := fun o => frozenB B3 o
  go_wp2_with fail
  clear cb fb
  have I4 : (w2.setCell ⟨w.heap.size + 1, 1, none⟩ (.int .i64 10)).heap[w.heap.size]? = some (.cells #[.int .i64 1, .int .i64 2, .int .i64 3] 3 (0, 0)) := (Below.heap_setCell _ _ _ _ (by show w.heap.size ≠ w.heap.size + 1; omega)).trans I3
  have hB4 : Below w.heap.size w (w2.setCell ⟨w.heap.size + 1, 1, none⟩ (.int .i64 10)) := (by repeat' (first | (with_reducible refine bset ?_ ?_) | (with_reducible exact Below.refl _ _) | (with_reducible assumption) | (with_reducible refine bdrewN ?_ _) | (with_reducible refine bdrew ?_) | (with_reducible refine balloc0 ?_) | (with_reducible refine balloc ?_ ?_) | (with_reducible apply btrans0; rotate_left; with_reducible assumption) | (with_reducible apply btrans; rotate_left; with_reducible assumption) | exact Below.refl _ _ | assumption | (apply btrans0; rotate_left; assumption) | (apply btrans; rotate_left; assumption) | (simp; done) | omega | (simp; omega)))
  have sz4 : (w2.setCell ⟨w.heap.size + 1, 1, none⟩ (.int .i64 10)).heap.size = w2.heap.size := by simp
  obtain ⟨V4, hV4⟩ : ∃ V, w2.setCell ⟨w.heap.size + 1, 1, none⟩ (.int .i64 10) = V := ⟨_, rfl⟩
  rw [hV4] at I4 hB4 sz4 ⊢
  rw [← sz4]
  clear I3 B3 hB3 hV4
  refine (process_any [xb 10] [1, 2, 3] _ _ _ (RBlks.lit1 (x := xb 10) (t := 29) (by exact heap_new) (by simp)) (RInts.lit3 (t := 3) (by exact (Below.heap_alloc _ _ _ (by omega)).trans I4) (by simp; omega)) (HD.out 10)).mono ?_
  rw [aw3]
  rintro e w3 ⟨v3, rfl, hr3, hb3⟩
  obtain ⟨a3, c3, rfl, _⟩ := hr3
  go_wp2
  go_ret
  exact ⟨rfl, (by repeat' (first | (with_reducible refine bset ?_ ?_) | (with_reducible exact Below.refl _ _) | (with_reducible assumption) | (with_reducible refine bdrewN ?_ _) | (with_reducible refine bdrew ?_) | (with_reducible refine balloc0 ?_) | (with_reducible refine balloc ?_ ?_) | (with_reducible apply btrans0; rotate_left; with_reducible assumption) | (with_reducible apply btrans; rotate_left; with_reducible assumption) | exact Below.refl _ _ | assumption | (apply btrans0; rotate_left; assumption) | (apply btrans; rotate_left; assumption) | (simp; done) | omega | (simp; omega)))⟩
end Go.Proofs.Ytdnbegcebloodaa
