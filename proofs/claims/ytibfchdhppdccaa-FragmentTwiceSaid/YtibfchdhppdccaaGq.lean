/- Walks: mailboatlaw17.parts, bundle.Parent. -/
import Derived.Test.YtibfchdhppdccaaGp
import Derived.Test.YtibfchdhppdccaaFl
import Derived.Test.YtibfchdhppdccaaR
set_option linter.unusedVariables false
set_option linter.unusedSimpArgs false
namespace Go.Proofs.Ytibfchdhppdccaa
open Go Go.RowKit Go.Shelf
attribute [local go_sem] B_getElem B_size B_app B_extract B_get B_toList

/-- an operation of a plan that is not wanted, an effect behind all loads -/
theorem plan_skipL {P : Program} {Q : Exit → Act → World → Prop} {S : World → Prop} {kd : List Nat} {l rl : List Oper} {i : Nat} {r : List Nat} {o : Oper} {a : Act} {w : World} (hd : l.drop i = o :: rl) (hk : kd.getD i 2 = 3) (hw : Region.wanted o (yielded l.toArray a.tmps) = false)
    (h : wpPlan P l.toArray Q S kd r (a.put o.dst undef) w) : wpPlan P l.toArray Q S kd (i :: r) a w := by
  have ho := drop_get hd
  unfold wpPlan
  rw [ho]
  simp only
  rw [if_neg (by omega), if_neg (by omega)]
  unfold wpOp
  simp only [ho, hw]
  exact h

/-- a list of bundles and whether there is no error come back -/
def PartsPost (l : List Bun) (E : Int) (w : World) (e : Ending) (w' : World) : Prop := ∃ a c, e = .returned (.tuple #[.slice a l.length c, .bool (decide (E = 0))]) ∧ RBuns w' w'.heap.size (.slice a l.length c) l ∧ Below w.heap.size w w'

set_option maxRecDepth 100000 in
set_option maxHeartbeats 1000000 in
theorem parts_any (b : Bun) (u : Value) (n : Int) (p : Bool) (N : Nat) (w : World) (hN : N ≤ w.heap.size) (h : RBlks w N u b.blocks) (hf : Fits b) :
    Calls Try.prog 17 #[.agg (bunC b u).toArray, .int .i64 n, .bool p] w (PartsPost (partsR b n p).1 (partsR b n p).2 w) := by
  obtain ⟨⟨l, E⟩, hl⟩ : ∃ x, partsR b n p = x := ⟨_, rfl⟩
  rw [hl]
  have HL := Lib.hid hl
  have HR := Lib.hid h
  have HF := Lib.hid hf
  obtain ⟨ua, uc, rfl, _⟩ := id h
  clear h hf hl
  go_enter Try.func17, Try.ntmps17
  simp only [bunC]
  cases p
  · have HL' : Hid (splitR b n = (l, E)) := Lib.hid (by have := HL.out; unfold partsR at this; rwa [if_neg (by simp)] at this)
    go_wp2_with fail
    refine (split_any b _ n N _ (by simp; omega) (HR.out.below (C := w.heap.size) (by repeat' (first | (with_reducible refine bset ?_ ?_) | (with_reducible exact Below.refl _ _) | (with_reducible assumption) | (with_reducible refine bdrewN ?_ _) | (with_reducible refine bdrew ?_) | (with_reducible refine balloc0 ?_) | (with_reducible refine balloc ?_ ?_) | (with_reducible apply btrans0; rotate_left; with_reducible assumption) | (with_reducible apply btrans; rotate_left; with_reducible assumption) | exact Below.refl _ _ | assumption | (apply btrans0; rotate_left; assumption) | (apply btrans; rotate_left; assumption) | (simp; done) | omega | (simp; omega))) hN (Nat.le_refl _)) HF.out).mono ?_
    rw [HL'.out]
    rintro e w1 ⟨v, rfl, hr1, hb1⟩
    obtain ⟨a1, c1, rfl, _⟩ := id hr1
    obtain ⟨z, hz⟩ : ∃ z : Bool, decide (E = 0) = z := ⟨_, rfl⟩
    have hz' : (E == 0) = z := by rw [← hz]; by_cases h : E = 0 <;> simp [h]
    go_wp2
    go_ret2
    exact ⟨a1, c1, by first | rfl | (simp [hz']; done) | (simp [hz]; done), hr1, (by repeat' (first | (with_reducible refine bset ?_ ?_) | (with_reducible exact Below.refl _ _) | (with_reducible assumption) | (with_reducible refine bdrewN ?_ _) | (with_reducible refine bdrew ?_) | (with_reducible refine balloc0 ?_) | (with_reducible refine balloc ?_ ?_) | (with_reducible apply btrans0; rotate_left; with_reducible assumption) | (with_reducible apply btrans; rotate_left; with_reducible assumption) | exact Below.refl _ _ | assumption | (apply btrans0; rotate_left; assumption) | (apply btrans; rotate_left; assumption) | (simp; done) | omega | (simp; omega)))⟩
  · have HL' : Hid (piecesR b n = (l, E)) := Lib.hid (by have := HL.out; unfold partsR at this; rwa [if_pos rfl] at this)
    go_wp2_with fail
    refine (pieces_any b _ n N _ (by simp; omega) (HR.out.below (C := w.heap.size) (by repeat' (first | (with_reducible refine bset ?_ ?_) | (with_reducible exact Below.refl _ _) | (with_reducible assumption) | (with_reducible refine bdrewN ?_ _) | (with_reducible refine bdrew ?_) | (with_reducible refine balloc0 ?_) | (with_reducible refine balloc ?_ ?_) | (with_reducible apply btrans0; rotate_left; with_reducible assumption) | (with_reducible apply btrans; rotate_left; with_reducible assumption) | exact Below.refl _ _ | assumption | (apply btrans0; rotate_left; assumption) | (apply btrans; rotate_left; assumption) | (simp; done) | omega | (simp; omega))) hN (Nat.le_refl _)) HF.out).mono ?_
    rw [HL'.out]
    rintro e w1 ⟨v, rfl, hr1, hb1⟩
    obtain ⟨a1, c1, rfl, _⟩ := id hr1
    obtain ⟨z, hz⟩ : ∃ z : Bool, decide (E = 0) = z := ⟨_, rfl⟩
    have hz' : (E == 0) = z := by rw [← hz]; by_cases h : E = 0 <;> simp [h]
    go_wp2
    go_ret2
    exact ⟨a1, c1, by first | rfl | (simp [hz']; done) | (simp [hz]; done), hr1, (by repeat' (first | (with_reducible refine bset ?_ ?_) | (with_reducible exact Below.refl _ _) | (with_reducible assumption) | (with_reducible refine bdrewN ?_ _) | (with_reducible refine bdrew ?_) | (with_reducible refine balloc0 ?_) | (with_reducible refine balloc ?_ ?_) | (with_reducible apply btrans0; rotate_left; with_reducible assumption) | (with_reducible apply btrans; rotate_left; with_reducible assumption) | exact Below.refl _ _ | assumption | (apply btrans0; rotate_left; assumption) | (apply btrans; rotate_left; assumption) | (simp; done) | omega | (simp; omega)))⟩

set_option maxHeartbeats 1000000 in
theorem parent_any (a b c d e : Int) (w : World) :
    Calls Try.prog 20 #[.agg #[.int .i64 a, .int .i64 b, .int .i64 c, .int .i64 d, .int .i64 e]] w (fun r w' => r = .returned (.agg #[.int .i64 a, .int .i64 b, .int .i64 c, .int .i64 0, .int .i64 0]) ∧ Below w.heap.size w w') := by
  go_enter Try.func20, Try.ntmps20
  go_wp2
  refine bodyPost_ret (v := .agg #[.int .i64 a, .int .i64 b, .int .i64 c, .int .i64 0, .int .i64 0]) (by simp [results, Try.results20, go_sem]) rfl ?_
  exact ⟨rfl, (by repeat' (first | (with_reducible refine bset ?_ ?_) | (with_reducible exact Below.refl _ _) | (with_reducible assumption) | (with_reducible refine bdrewN ?_ _) | (with_reducible refine bdrew ?_) | (with_reducible refine balloc0 ?_) | (with_reducible refine balloc ?_ ?_) | (with_reducible apply btrans0; rotate_left; with_reducible assumption) | (with_reducible apply btrans; rotate_left; with_reducible assumption) | exact Below.refl _ _ | assumption | (apply btrans0; rotate_left; assumption) | (apply btrans; rotate_left; assumption) | (simp; done) | omega | (simp; omega)))⟩
end Go.Proofs.Ytibfchdhppdccaa
