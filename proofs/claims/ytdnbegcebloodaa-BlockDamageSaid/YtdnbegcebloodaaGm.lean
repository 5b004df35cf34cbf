/- Arguments of kind string opened; the law's great where its bounds are passed. -/
import Derived.Test.YtdnbegcebloodaaGj
import Derived.Test.YtdnbegcebloodaaEg
import Derived.ChangeMaps5
set_option linter.unusedVariables false
set_option linter.unusedSimpArgs false
namespace Go.Proofs.Ytdnbegcebloodaa
open Go Go.ChangeShapes Go.WideShapes Go.ChangeAt Go.RowKit Go.Joins
attribute [local go_sem] B_getElem B_size B_app B_extract B_get B_toList

section
variable {H : Type} {enc : TypeId × Value → H} {w : World} {base : Nat} {spare : Nat → Bool} {held : Bool}
theorem open_str_arg {r : Reach} {b0 : Nat} {v : Value} {d : DataW H} {p : List MemPlace} (hv : Value.okWide Try.prog w r b0 9 v) (h : DataW.Trod enc Try.prog w base spare held 9 v d p) :
    ∃ l : List UInt8, v = .string (B l) ∧ l.length ≤ maxLen := by
  obtain ⟨s, rfl, _, _, hs⟩ := Go.ChangeMaps.open_string Try.underlying9 hv h
  exact ⟨s.data.toList, rfl, by simpa using hs⟩
end

theorem eqBlkE (k f : Int) (d : List UInt8) (w : World) : Sem.run Try.prog (Go.binOp .eql 29 (.agg #[.int .i64 k, .int .i64 f, .string (B d)]) (.agg #[.int .i64 k, .int .i64 f, .string (B d)])) w = .ok (.bool true) w := by
  go_simp
set_option maxHeartbeats 1000000 in
theorem great_len (l : List Blk) (u : Value) (w : World) (h : RBlks w w.heap.size u l) (hl : 10 < l.length) :
    Calls Try.prog 42 #[u] w fun e w' => e = .returned (.bool true) ∧ Below w.heap.size w w' := by
  obtain ⟨a, c, rfl, h1, h2, _⟩ := h
  unfold maxLen at h2
  have hlen : l.length ≤ 9223372036854775807 := by omega
  have hl' : (10 : Int) < (l.length : Int) := by omega
  go_enter Try.func42, Try.ntmps42
  go_wp2
  go_ret
  exact ⟨rfl, (by repeat' (first | (with_reducible refine bset ?_ ?_) | (with_reducible exact Below.refl _ _) | (with_reducible assumption) | (with_reducible refine bdrewN ?_ _) | (with_reducible refine bdrew ?_) | (with_reducible refine balloc0 ?_) | (with_reducible refine balloc ?_ ?_) | (with_reducible apply btrans0; rotate_left; with_reducible assumption) | (with_reducible apply btrans; rotate_left; with_reducible assumption) | exact Below.refl _ _ | assumption | (apply btrans0; rotate_left; assumption) | (apply btrans; rotate_left; assumption) | (simp; done) | omega | (simp; omega)))⟩
/-- the law's great: beyond its bounds it says true -/
def GrPost (l : List Blk) (s : List UInt8) (w : World) (e : Ending) (w' : World) : Prop := ∃ g, e = .returned (.bool g) ∧ (g = false → l.length ≤ 10 ∧ s.length ≤ 1500) ∧ Below w.heap.size w w'
set_option maxHeartbeats 1000000 in
theorem lawGreat_s (l : List Blk) (u : Value) (s : List UInt8) (w : World) (h : RBlks w w.heap.size u l) (hd : ∀ x ∈ l, x.data.length ≤ maxLen) (hs : s.length ≤ maxLen) :
    Calls Try.prog 11 #[u, .string (B s)] w (GrPost l s w) := by
  have HR := Lib.hid h
  have HD := Lib.hid hd
  unfold maxLen at hs
  clear h hd
  by_cases hl : 10 < l.length
  · go_enter Try.func11, Try.ntmps11
    go_wp2_with fail
    refine (great_len l u _ HR.out hl).mono ?_
    rintro e w1 ⟨rfl, hb1⟩
    go_wp2
    go_ret
    exact ⟨_, rfl, fun h => by simp at h, (by repeat' (first | (with_reducible refine bset ?_ ?_) | (with_reducible exact Below.refl _ _) | (with_reducible assumption) | (with_reducible refine bdrewN ?_ _) | (with_reducible refine bdrew ?_) | (with_reducible refine balloc0 ?_) | (with_reducible refine balloc ?_ ?_) | (with_reducible apply btrans0; rotate_left; with_reducible assumption) | (with_reducible apply btrans; rotate_left; with_reducible assumption) | exact Below.refl _ _ | assumption | (apply btrans0; rotate_left; assumption) | (apply btrans; rotate_left; assumption) | (simp; done) | omega | (simp; omega)))⟩
  have hl10 : l.length ≤ 10 := by omega
  have HL := Lib.hid hl10
  clear hl hl10
  by_cases hq : 1500 < s.length
  · have hq1 : (1500 : Int) < (s.length : Int) := by omega
    have hq2 : decide ((1500 : Int) < (s.length : Int)) = true := decide_eq_true hq1
    have hq3 : decide (1500 < s.length) = true := decide_eq_true hq
    go_enter Try.func11, Try.ntmps11
    go_wp2_with fail
    refine (great_any l u _ HR.out HD.out).mono ?_
    rintro e w1 ⟨g, rfl, hb1⟩
    cases g
    all_goals
      go_wp2
      go_ret
      exact ⟨_, rfl, fun h => by simp at h, (by repeat' (first | (with_reducible refine bset ?_ ?_) | (with_reducible exact Below.refl _ _) | (with_reducible assumption) | (with_reducible refine bdrewN ?_ _) | (with_reducible refine bdrew ?_) | (with_reducible refine balloc0 ?_) | (with_reducible refine balloc ?_ ?_) | (with_reducible apply btrans0; rotate_left; with_reducible assumption) | (with_reducible apply btrans; rotate_left; with_reducible assumption) | exact Below.refl _ _ | assumption | (apply btrans0; rotate_left; assumption) | (apply btrans; rotate_left; assumption) | (simp; done) | omega | (simp; omega)))⟩
  · have hq1 : ¬ (1500 : Int) < (s.length : Int) := by omega
    have hq2 : decide ((1500 : Int) < (s.length : Int)) = false := decide_eq_false hq1
    have hq3 : decide (1500 < s.length) = false := decide_eq_false hq
    go_enter Try.func11, Try.ntmps11
    go_wp2_with fail
    refine (great_any l u _ HR.out HD.out).mono ?_
    rintro e w1 ⟨g, rfl, hb1⟩
    cases g
    all_goals
      go_wp2
      go_ret
      exact ⟨_, rfl, fun h => ⟨HL.out, by omega⟩, (by repeat' (first | (with_reducible refine bset ?_ ?_) | (with_reducible exact Below.refl _ _) | (with_reducible assumption) | (with_reducible refine bdrewN ?_ _) | (with_reducible refine bdrew ?_) | (with_reducible refine balloc0 ?_) | (with_reducible refine balloc ?_ ?_) | (with_reducible apply btrans0; rotate_left; with_reducible assumption) | (with_reducible apply btrans; rotate_left; with_reducible assumption) | exact Below.refl _ _ | assumption | (apply btrans0; rotate_left; assumption) | (apply btrans; rotate_left; assumption) | (simp; done) | omega | (simp; omega)))⟩
end Go.Proofs.Ytdnbegcebloodaa
