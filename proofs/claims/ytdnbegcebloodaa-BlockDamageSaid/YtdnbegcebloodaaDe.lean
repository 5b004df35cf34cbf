/- Layers 1 and 2, the program: Text, Seal. -/
import Derived.Test.YtdnbegcebloodaaBc
import Derived.Test.YtdnbegcebloodaaCd
import Derived.Test.YtdnbegcebloodaaDd
set_option linter.unusedVariables false
namespace Go.Proofs.Ytdnbegcebloodaa
open Go Go.RowKit
attribute [local go_sem] B_getElem B_size B_app B_extract B_get B_toList

theorem textE_len (s : List UInt8) : s.length + 1 ≤ (textE s).length ∧ (textE s).length ≤ s.length + 11 := by
  have := intE_len s.length
  unfold textE
  rw [List.length_append]
  omega

set_option maxHeartbeats 1000000 in
theorem text_ok (s : List UInt8) (w : World) (h : s.length ≤ 65536) :
    Calls Try.prog 57 #[.string (B s)] w fun e w' => e = .returned (.tuple #[.string (B (textE s)), .int .i64 0]) ∧ Below w.heap.size w w' := by
  have hi := intE_len s.length
  have hj : ¬ 9223372036854775807 < (intE (s.length : Int)).length + s.length := by omega
  have hn : ¬ (65536 : Int) < (s.length : Int) := by omega
  go_enter Try.func57, Try.ntmps57
  go_wp2_with fail
  refine (int_any s.length _ (by omega) (by omega)).mono ?_
  rintro e w1 ⟨rfl, hb1⟩
  go_wp2
  go_ret2
  exact ⟨rfl, (by repeat' (first | (with_reducible refine bset ?_ ?_) | (with_reducible exact Below.refl _ _) | (with_reducible assumption) | (with_reducible refine bdrewN ?_ _) | (with_reducible refine bdrew ?_) | (with_reducible refine balloc0 ?_) | (with_reducible refine balloc ?_ ?_) | (with_reducible apply btrans0; rotate_left; with_reducible assumption) | (with_reducible apply btrans; rotate_left; with_reducible assumption) | exact Below.refl _ _ | assumption | (apply btrans0; rotate_left; assumption) | (apply btrans; rotate_left; assumption) | (simp; done) | omega | (simp; omega)))⟩
set_option maxHeartbeats 1000000 in
theorem text_bad (s : List UInt8) (w : World) (h : 65536 < s.length) :
    Calls Try.prog 57 #[.string (B s)] w fun e w' => e = .returned (.tuple #[.string (B []), .int .i64 4]) ∧ Below w.heap.size w w' := by
  have hn : (65536 : Int) < (s.length : Int) := by omega
  go_enter Try.func57, Try.ntmps57
  go_wp2
  go_ret2
  exact ⟨rfl, (by repeat' (first | (with_reducible refine bset ?_ ?_) | (with_reducible exact Below.refl _ _) | (with_reducible assumption) | (with_reducible refine bdrewN ?_ _) | (with_reducible refine bdrew ?_) | (with_reducible refine balloc0 ?_) | (with_reducible refine balloc ?_ ?_) | (with_reducible apply btrans0; rotate_left; with_reducible assumption) | (with_reducible apply btrans; rotate_left; with_reducible assumption) | exact Below.refl _ _ | assumption | (apply btrans0; rotate_left; assumption) | (apply btrans; rotate_left; assumption) | (simp; done) | omega | (simp; omega)))⟩

/-- the frame of a string -/
def sealE (s : List UInt8) : List UInt8 := textE s ++ tailB (textE s)
set_option maxHeartbeats 1000000 in
theorem seal_ok (s : List UInt8) (w : World) (h : s.length ≤ 65536) :
    Calls Try.prog 58 #[.string (B s)] w fun e w' => e = .returned (.tuple #[.string (B (sealE s)), .int .i64 0]) ∧ Below w.heap.size w w' := by
  obtain ⟨t1, t2⟩ := textE_len s
  have hj : ¬ 9223372036854775807 < (textE s).length + (tailB (textE s)).length := by have : (tailB (textE s)).length = 4 := rfl; omega
  go_enter Try.func58, Try.ntmps58
  go_wp2_with fail
  refine (text_ok s _ h).mono ?_
  rintro e w1 ⟨rfl, hb1⟩
  go_wp2_with fail
  refine (tail_any (textE s) _ (by omega)).mono ?_
  rintro e w2 ⟨rfl, hb2⟩
  go_wp2
  go_ret2
  exact ⟨rfl, (by repeat' (first | (with_reducible refine bset ?_ ?_) | (with_reducible exact Below.refl _ _) | (with_reducible assumption) | (with_reducible refine bdrewN ?_ _) | (with_reducible refine bdrew ?_) | (with_reducible refine balloc0 ?_) | (with_reducible refine balloc ?_ ?_) | (with_reducible apply btrans0; rotate_left; with_reducible assumption) | (with_reducible apply btrans; rotate_left; with_reducible assumption) | exact Below.refl _ _ | assumption | (apply btrans0; rotate_left; assumption) | (apply btrans; rotate_left; assumption) | (simp; done) | omega | (simp; omega)))⟩
end Go.Proofs.Ytdnbegcebloodaa
