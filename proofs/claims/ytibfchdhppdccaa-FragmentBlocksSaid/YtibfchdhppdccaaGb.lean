/- Walk of chapter 17's examples. -/
import Derived.Test.YtibfchdhppdccaaGa
import Derived.Test.YtibfchdhppdccaaFl
set_option linter.unusedVariables false
set_option linter.unusedSimpArgs false
namespace Go.Proofs.Ytibfchdhppdccaa
open Go Go.RowKit Go.Shelf
attribute [local go_sem] B_getElem B_size B_app B_extract B_get B_toList

def aw : Bun := ⟨1, 0, 0, 0, 0, 1, 2, 9, 0, 0, [], [97, 98, 99, 100, 101, 102, 103]⟩
def awP (o : Int) (p : List UInt8) : Bun := ⟨1, 0, 0, o, 7, 1, 2, 9, 0, 0, [], p⟩
theorem aw_split : splitR aw 3 = ([awP 0 [97, 98, 99], awP 3 [100, 101, 102], awP 6 [103]], 0) := by rfl
theorem aw_pieces : piecesR aw 3 = ([awP 0 [97, 98, 99], awP 3 [100, 101], awP 5 [102, 103]], 0) := by rfl
theorem aw_cut : cutR (awP 3 [100, 101, 102]) 4 5 = (awP 4 [101], 0) := by rfl
theorem fits_aw : Fits aw := ⟨by simp [aw, maxLen], fun x hx => by simp [aw] at hx⟩
theorem fits_awP (o : Int) {p : List UInt8} (h : p.length ≤ 100) : Fits (awP o p) := ⟨by simp only [awP, maxLen]; omega, fun x hx => by simp [awP] at hx⟩

/-- the cells of a bundle of the examples -/
theorem RBuns.three {w : World} {N : Nat} {v : Value} {x y z : Bun} (h : RBuns w N v [x, y, z]) : ∃ b o c, v = .slice (some ⟨b, o, Option.none⟩) 3 c ∧ b < N ∧ 3 ≤ c ∧ CBun w N b (o + 0 * 12) x ∧ CBun w N b (o + 1 * 12) y ∧ CBun w N b (o + 2 * 12) z := by
  obtain ⟨a, c, rfl, h1, h2, h3, h4⟩ := h
  obtain ⟨b, o, rfl, hb, hc⟩ := h4 (by simp)
  exact ⟨b, o, c, rfl, hb, h1, hc 0 x rfl, hc 1 y rfl, hc 2 z rfl⟩

set_option maxRecDepth 100000 in
set_option maxHeartbeats 1000000 in
theorem awake_any (w : World) : Calls Try.prog 11 #[] w (Says w) := by
  go_enter Try.func11, Try.ntmps11
  go_wp2_with fail
  refine (split_any aw (.slice none 0 0) 3 w.heap.size _ (by simp) (RBlks.nil _ _) fits_aw).mono ?_
  rintro e w1 ⟨v1, rfl, hr1, hb1⟩
  rw [aw_split] at hr1 ⊢
  obtain ⟨b1, o1, c1, rfl, hn1, hc1, x0, x1, x2⟩ := hr1.three
  obtain ⟨k1, f1⟩ := bcell hb1
  have z1 : w.heap.size < w1.heap.size := by have := hb1.size; simp at this; omega
  go_wp2_with fail
  refine (pieces_any aw (.slice none 0 0) 3 w.heap.size _ (by omega) (RBlks.nil _ _) fits_aw).mono ?_
  rintro e w2 ⟨v2, rfl, hr2, hb2⟩
  rw [aw_pieces] at hr2 ⊢
  obtain ⟨b2, o2, c2, rfl, hn2, hc2, y0, y1, y2⟩ := hr2.three
  obtain ⟨k2, f2⟩ := bcell hb2
  have z2 : w1.heap.size ≤ w2.heap.size := hb2.size
  replace x0 := x0.keep (M := w2.heap.size) hn1 (fun b o hb => hb2.cell (p := ⟨b, o, none⟩) hb) z2
  replace x1 := x1.keep (M := w2.heap.size) hn1 (fun b o hb => hb2.cell (p := ⟨b, o, none⟩) hb) z2
  replace x2 := x2.keep (M := w2.heap.size) hn1 (fun b o hb => hb2.cell (p := ⟨b, o, none⟩) hb) z2
  obtain ⟨u1, p1, r1⟩ := x1
  have q0 : w2.cell? ⟨b1, o1 + 12, none⟩ = some (.int .i64 1) := p1 0 _ rfl
  have q1 : w2.cell? ⟨b1, o1 + 12 + 1, none⟩ = some (.int .i64 0) := p1 1 _ rfl
  have q2 : w2.cell? ⟨b1, o1 + 12 + 2, none⟩ = some (.int .i64 0) := p1 2 _ rfl
  have q3 : w2.cell? ⟨b1, o1 + 12 + 3, none⟩ = some (.int .i64 3) := p1 3 _ rfl
  have q4 : w2.cell? ⟨b1, o1 + 12 + 4, none⟩ = some (.int .i64 7) := p1 4 _ rfl
  have q5 : w2.cell? ⟨b1, o1 + 12 + 5, none⟩ = some (.int .i64 1) := p1 5 _ rfl
  have q6 : w2.cell? ⟨b1, o1 + 12 + 6, none⟩ = some (.int .i64 2) := p1 6 _ rfl
  have q7 : w2.cell? ⟨b1, o1 + 12 + 7, none⟩ = some (.int .i64 9) := p1 7 _ rfl
  have q8 : w2.cell? ⟨b1, o1 + 12 + 8, none⟩ = some (.int .i64 0) := p1 8 _ rfl
  have q9 : w2.cell? ⟨b1, o1 + 12 + 9, none⟩ = some (.int .i64 0) := p1 9 _ rfl
  have q10 : w2.cell? ⟨b1, o1 + 12 + 10, none⟩ = some (u1) := p1 10 _ rfl
  have q11 : w2.cell? ⟨b1, o1 + 12 + 11, none⟩ = some (.string (B [100, 101, 102])) := p1 11 _ rfl
  have R1 := Lib.hid r1
  clear p1 r1 k1 f1 k2 f2 hr1 hr2
  go_wp2_with fail
  refine (cutr_any (awP 3 [100, 101, 102]) u1 4 5 w2.heap.size _ (by simp) (show RBlks w2 w2.heap.size u1 _ from R1.out) (fits_awP _ (by simp))).mono ?_
  rintro e w3 ⟨u3, rfl, hr3, hb3⟩
  rw [aw_cut] at hr3 ⊢
  obtain ⟨a3, c3, hu3, _⟩ := hr3
  subst hu3
  replace x0 := x0.keep (M := w3.heap.size) (by omega) (fun b o hb => hb3.cell (p := ⟨b, o, Option.none⟩) hb) hb3.size
  replace x2 := x2.keep (M := w3.heap.size) (by omega) (fun b o hb => hb3.cell (p := ⟨b, o, Option.none⟩) hb) hb3.size
  replace y0 := y0.keep (M := w3.heap.size) (by omega) (fun b o hb => hb3.cell (p := ⟨b, o, Option.none⟩) hb) hb3.size
  replace y1 := y1.keep (M := w3.heap.size) (by omega) (fun b o hb => hb3.cell (p := ⟨b, o, Option.none⟩) hb) hb3.size
  replace y2 := y2.keep (M := w3.heap.size) (by omega) (fun b o hb => hb3.cell (p := ⟨b, o, Option.none⟩) hb) hb3.size
  have p11 : w3.cell? ⟨b1, o1 + 12 + 11, none⟩ = some (.string (B [100, 101, 102])) := (hb3.cell (p := ⟨b1, o1 + 12 + 11, none⟩) (by simp; omega)).trans q11
  clear q0 q1 q2 q3 q4 q5 q6 q7 q8 q9 q10 q11
  obtain ⟨_, p, _⟩ := x0
  have s11 : w3.cell? ⟨b1, o1 + 11, none⟩ = some (.string (B [97, 98, 99])) := p 11 _ rfl
  clear p
  obtain ⟨_, p, _⟩ := x2
  have t11 : w3.cell? ⟨b1, o1 + 24 + 11, none⟩ = some (.string (B [103])) := p 11 _ rfl
  have t3 : w3.cell? ⟨b1, o1 + 24 + 3, none⟩ = some (.int .i64 6) := p 3 _ rfl
  have t4 : w3.cell? ⟨b1, o1 + 24 + 4, none⟩ = some (.int .i64 7) := p 4 _ rfl
  clear p
  obtain ⟨_, p, _⟩ := y0
  have u11 : w3.cell? ⟨b2, o2 + 11, none⟩ = some (.string (B [97, 98, 99])) := p 11 _ rfl
  clear p
  obtain ⟨_, p, _⟩ := y1
  have v11 : w3.cell? ⟨b2, o2 + 12 + 11, none⟩ = some (.string (B [100, 101])) := p 11 _ rfl
  clear p
  obtain ⟨_, p, _⟩ := y2
  have g11 : w3.cell? ⟨b2, o2 + 24 + 11, none⟩ = some (.string (B [102, 103])) := p 11 _ rfl
  have g3 : w3.cell? ⟨b2, o2 + 24 + 3, none⟩ = some (.int .i64 5) := p 3 _ rfl
  clear p
  have l1 : b1 < w3.heap.size := by have := hb3.size; omega
  have l2 : b2 < w3.heap.size := by have := hb3.size; omega
  simp only [awP, bunC]
  go_wp2
  go_ret
  exact ⟨rfl, (by repeat' (first | (with_reducible refine bset ?_ ?_) | (with_reducible exact Below.refl _ _) | (with_reducible assumption) | (with_reducible refine bdrewN ?_ _) | (with_reducible refine bdrew ?_) | (with_reducible refine balloc0 ?_) | (with_reducible refine balloc ?_ ?_) | (with_reducible apply btrans0; rotate_left; with_reducible assumption) | (with_reducible apply btrans; rotate_left; with_reducible assumption) | exact Below.refl _ _ | assumption | (apply btrans0; rotate_left; assumption) | (apply btrans; rotate_left; assumption) | (simp; done) | omega | (simp; omega)))⟩
end Go.Proofs.Ytibfchdhppdccaa
