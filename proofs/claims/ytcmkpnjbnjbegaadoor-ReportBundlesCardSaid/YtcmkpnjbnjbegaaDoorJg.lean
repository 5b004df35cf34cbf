/- Joined by port.py: XDe XEa XEb -/
import Derived.Test.YtcmkpnjbnjbegaaDoorJd
import Derived.Test.YtcmkpnjbnjbegaaDoorJe
import Derived.Test.YtcmkpnjbnjbegaaDoorJf
import Derived.Test.YtcmkpnjbnjbegaaDoorJa
import Derived.Test.YtcmkpnjbnjbegaaDoorJb
set_option linter.unusedVariables false
set_option linter.unusedSimpArgs false
/-! XDe -/
namespace Go.Proofs.YtcmkpnjbnjbegaaDoor
open Go Go.RowKit
attribute [local go_sem] B_getElem B_size B_app B_extract B_get B_toList
theorem textE_len (s : List UInt8) : s.length + 1 ≤ (textE s).length ∧ (textE s).length ≤ s.length + 11 := by
  have := intE_len s.length
  unfold textE
  rw [List.length_append]
  omega
set_option maxHeartbeats 1000000 in
theorem text_ok (s : List UInt8) (w : World) (h : s.length ≤ 65536) :
    Calls Tryd.prog 42 #[.string (B s)] w fun e w' => e = .returned (.tuple #[.string (B (textE s)), .int .i64 0]) ∧ Below w.heap.size w w' := by
  have hi := intE_len s.length
  have hj : ¬ 9223372036854775807 < (intE (s.length : Int)).length + s.length := by omega
  have hn : ¬ (65536 : Int) < (s.length : Int) := by omega
  go_enter Tryd.func42, Tryd.ntmps42
  go_wp2_with fail
  refine (int_any s.length _ (by omega) (by omega)).mono ?_
  rintro e w1 ⟨rfl, hb1⟩
  go_wp2
  go_ret2
  exact ⟨rfl, (by repeat' (first | (with_reducible refine bset ?_ ?_) | (with_reducible exact Below.refl _ _) | (with_reducible assumption) | (with_reducible refine bdrewN ?_ _) | (with_reducible refine bdrew ?_) | (with_reducible refine balloc0 ?_) | (with_reducible refine balloc ?_ ?_) | (with_reducible apply btrans0; rotate_left; with_reducible assumption) | (with_reducible apply btrans; rotate_left; with_reducible assumption) | exact Below.refl _ _ | assumption | (apply btrans0; rotate_left; assumption) | (apply btrans; rotate_left; assumption) | (simp; done) | omega | (simp; omega)))⟩
set_option maxHeartbeats 1000000 in
theorem text_bad (s : List UInt8) (w : World) (h : 65536 < s.length) :
    Calls Tryd.prog 42 #[.string (B s)] w fun e w' => e = .returned (.tuple #[.string (B []), .int .i64 4]) ∧ Below w.heap.size w w' := by
  have hn : (65536 : Int) < (s.length : Int) := by omega
  go_enter Tryd.func42, Tryd.ntmps42
  go_wp2
  go_ret2
  exact ⟨rfl, (by repeat' (first | (with_reducible refine bset ?_ ?_) | (with_reducible exact Below.refl _ _) | (with_reducible assumption) | (with_reducible refine bdrewN ?_ _) | (with_reducible refine bdrew ?_) | (with_reducible refine balloc0 ?_) | (with_reducible refine balloc ?_ ?_) | (with_reducible apply btrans0; rotate_left; with_reducible assumption) | (with_reducible apply btrans; rotate_left; with_reducible assumption) | exact Below.refl _ _ | assumption | (apply btrans0; rotate_left; assumption) | (apply btrans; rotate_left; assumption) | (simp; done) | omega | (simp; omega)))⟩
/-- the frame of a string -/
def sealE (s : List UInt8) : List UInt8 := textE s ++ tailB (textE s)
set_option maxHeartbeats 1000000 in
theorem seal_ok (s : List UInt8) (w : World) (h : s.length ≤ 65536) :
    Calls Tryd.prog 44 #[.string (B s)] w fun e w' => e = .returned (.tuple #[.string (B (sealE s)), .int .i64 0]) ∧ Below w.heap.size w w' := by
  obtain ⟨t1, t2⟩ := textE_len s
  have hj : ¬ 9223372036854775807 < (textE s).length + (tailB (textE s)).length := by have : (tailB (textE s)).length = 4 := rfl; omega
  go_enter Tryd.func44, Tryd.ntmps44
  go_wp2_with fail
  refine (text_ok s _ h).mono ?_
  rintro e w1 ⟨rfl, hb1⟩
  go_wp2_with fail
  refine (tail_any (textE s) _ (by omega)).mono ?_
  rintro e w2 ⟨rfl, hb2⟩
  go_wp2
  go_ret2
  exact ⟨rfl, (by repeat' (first | (with_reducible refine bset ?_ ?_) | (with_reducible exact Below.refl _ _) | (with_reducible assumption) | (with_reducible refine bdrewN ?_ _) | (with_reducible refine bdrew ?_) | (with_reducible refine balloc0 ?_) | (with_reducible refine balloc ?_ ?_) | (with_reducible apply btrans0; rotate_left; with_reducible assumption) | (with_reducible apply btrans; rotate_left; with_reducible assumption) | exact Below.refl _ _ | assumption | (apply btrans0; rotate_left; assumption) | (apply btrans; rotate_left; assumption) | (simp; done) | omega | (simp; omega)))⟩
end Go.Proofs.YtcmkpnjbnjbegaaDoor
/-! XEa -/
namespace Go.Proofs.YtcmkpnjbnjbegaaDoor
open Go Go.RowKit
attribute [local go_sem] B_getElem B_size B_app B_extract B_get B_toList
def blkV (x : Blk) : Value := .agg (blkC x).toArray
set_option maxHeartbeats 1000000 in
theorem bcheck_any (x : Blk) (w : World) (hx : x.data.length ≤ 9223372036854775807) :
    Calls Tryd.prog 62 #[.agg #[.int .i64 x.kind, .int .i64 x.flags, .string (B x.data)]] w fun e w' => e = .returned (.int .i64 (blkE x)) ∧ Below w.heap.size w w' := by
  obtain ⟨E, hE⟩ : ∃ E, blkE x = E := ⟨_, rfl⟩
  have HE := Lib.hid hE
  rw [hE]
  clear hE
  go_enter Tryd.func62, Tryd.ntmps62
  go_wp2
  all_goals (go_ret; refine ⟨ret_int ?_, (by repeat' (first | (with_reducible refine bset ?_ ?_) | (with_reducible exact Below.refl _ _) | (with_reducible assumption) | (with_reducible refine bdrewN ?_ _) | (with_reducible refine bdrew ?_) | (with_reducible refine balloc0 ?_) | (with_reducible refine balloc ?_ ?_) | (with_reducible apply btrans0; rotate_left; with_reducible assumption) | (with_reducible apply btrans; rotate_left; with_reducible assumption) | exact Below.refl _ _ | assumption | (apply btrans0; rotate_left; assumption) | (apply btrans; rotate_left; assumption) | (simp; done) | omega | (simp; omega)))⟩; rw [← HE.out]; unfold blkE; (try simp only [Bool.not_eq_true', Bool.not_eq_false', decide_eq_true_eq, decide_eq_false_iff_not, beq_iff_eq, beq_eq_false_iff_ne, bne_iff_ne, bne_eq_false_iff_eq, ne_eq, Bool.and_eq_true, Bool.or_eq_true, Bool.and_eq_false_imp, Bool.or_eq_false_iff] at *); repeat' (first | omega | split))
end Go.Proofs.YtcmkpnjbnjbegaaDoor
/-! XEb -/
namespace Go.Proofs.YtcmkpnjbnjbegaaDoor
open Go Go.RowKit
attribute [local go_sem] B_getElem B_size B_app B_extract B_get B_toList
/-- why a list of blocks behind a kind is not valid -/
def caE : Option Int → List Blk → Int
  | _, [] => 0
  | p, x :: l => if blkE x ≠ 0 then blkE x else if (∃ q, p = some q ∧ x.kind ≤ q) then 9 else caE (some x.kind) l
def chkAll (l : List Blk) : Int := if 8 < l.length then 4 else caE none l
end Go.Proofs.YtcmkpnjbnjbegaaDoor
