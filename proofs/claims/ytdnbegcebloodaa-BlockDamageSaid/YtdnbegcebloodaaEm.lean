/- Layer 12 (block), the program: Find, Remove. -/
import Derived.Test.YtdnbegcebloodaaEk
import Derived.Test.YtdnbegcebloodaaEb
set_option linter.unusedVariables false
set_option linter.unusedSimpArgs false
namespace Go.Proofs.Ytdnbegcebloodaa
open Go Go.RowKit
attribute [local go_sem] B_getElem B_size B_app B_extract B_get B_toList

def zBlk : Blk := ⟨0, 0, []⟩
def findS (l : List Blk) (k : Int) : Blk × Bool := match l.find? (fun x => x.kind == k) with | some x => (x, true) | none => (zBlk, false)
theorem findS_none {l : List Blk} {k : Int} (h : ∀ x ∈ l, (x.kind == k) = false) : findS l k = (zBlk, false) := by
  unfold findS
  rw [List.find?_eq_none.2 (fun x hx => by simp only [h x hx]; simp)]
theorem findS_some {l : List Blk} {k : Int} {q : Nat} {x : Blk} (hx : l[q]? = some x) (h : ∀ y ∈ l.take q, (y.kind == k) = false) (h2 : (x.kind == k) = true) : findS l k = (x, true) := by
  unfold findS
  have hq : q < l.length := (List.getElem?_eq_some_iff.1 hx).1
  have hsp : l = l.take q ++ x :: l.drop (q + 1) := by
    rw [List.getElem?_eq_getElem hq] at hx
    injection hx with hx
    rw [← hx, List.getElem_cons_drop, List.take_append_drop]
  rw [hsp, List.find?_append, List.find?_eq_none.2 (fun y hy => by simp only [h y hy]; simp), List.find?_cons_of_pos (p := fun x : Blk => x.kind == k) h2]
  rfl
set_option maxHeartbeats 1000000 in
theorem find1_pred (l : List Blk) (k : Int) (kb N : Nat) (w : World) (hkb : kb < N) (hN : N ≤ w.heap.size) (hc : w.cell? ⟨kb, 0, none⟩ = some (.int .i64 k)) :
    PredN 49 #[.pointer (some ⟨kb, 0, none⟩)] (fun x => x.kind == k) N w l := by
  refine ⟨fun _ _ => by kernel_rfl, fun x W _ hW => ?_⟩
  have c1 : W.cell? ⟨kb, 0, none⟩ = some (.int .i64 k) := (hW.cell (p := ⟨kb, 0, none⟩) hkb).trans hc
  have z : kb < W.heap.size := by have := hW.size; omega
  clear hc hW
  show Calls Try.prog 49 #[.agg #[.int .i64 x.kind, .int .i64 x.flags, .string (B x.data)], .pointer (some ⟨kb, 0, none⟩)] W fun e W' => e = .returned (.bool (x.kind == k)) ∧ Below W.heap.size W W'
  go_enter Try.func49, Try.ntmps49
  go_wp2
  go_ret
  exact ⟨rfl, (by repeat' (first | (with_reducible refine bset ?_ ?_) | (with_reducible exact Below.refl _ _) | (with_reducible assumption) | (with_reducible refine bdrewN ?_ _) | (with_reducible refine bdrew ?_) | (with_reducible refine balloc0 ?_) | (with_reducible refine balloc ?_ ?_) | (with_reducible apply btrans0; rotate_left; with_reducible assumption) | (with_reducible apply btrans; rotate_left; with_reducible assumption) | exact Below.refl _ _ | assumption | (apply btrans0; rotate_left; assumption) | (apply btrans; rotate_left; assumption) | (simp; done) | omega | (simp; omega)))⟩
set_option maxHeartbeats 1000000 in
theorem remove1_pred (l : List Blk) (k : Int) (kb N : Nat) (w : World) (hkb : kb < N) (hN : N ≤ w.heap.size) (hc : w.cell? ⟨kb, 0, none⟩ = some (.int .i64 k)) :
    PredN 54 #[.pointer (some ⟨kb, 0, none⟩)] (fun x => x.kind != k) N w l := by
  refine ⟨fun _ _ => by kernel_rfl, fun x W _ hW => ?_⟩
  have c1 : W.cell? ⟨kb, 0, none⟩ = some (.int .i64 k) := (hW.cell (p := ⟨kb, 0, none⟩) hkb).trans hc
  have z : kb < W.heap.size := by have := hW.size; omega
  clear hc hW
  show Calls Try.prog 54 #[.agg #[.int .i64 x.kind, .int .i64 x.flags, .string (B x.data)], .pointer (some ⟨kb, 0, none⟩)] W fun e W' => e = .returned (.bool (x.kind != k)) ∧ Below W.heap.size W W'
  go_enter Try.func54, Try.ntmps54
  go_wp2
  go_ret
  exact ⟨rfl, (by repeat' (first | (with_reducible refine bset ?_ ?_) | (with_reducible exact Below.refl _ _) | (with_reducible assumption) | (with_reducible refine bdrewN ?_ _) | (with_reducible refine bdrew ?_) | (with_reducible refine balloc0 ?_) | (with_reducible refine balloc ?_ ?_) | (with_reducible apply btrans0; rotate_left; with_reducible assumption) | (with_reducible apply btrans; rotate_left; with_reducible assumption) | exact Below.refl _ _ | assumption | (apply btrans0; rotate_left; assumption) | (apply btrans; rotate_left; assumption) | (simp; done) | omega | (simp; omega)))⟩
set_option maxHeartbeats 1000000 in
theorem put1_pred (l : List Blk) (k : Int) (kb N : Nat) (w : World) (hkb : kb < N) (hN : N ≤ w.heap.size) (hc : w.cell? ⟨kb, 0, none⟩ = some (.int .i64 k)) :
    PredN 50 #[.pointer (some ⟨kb, 0, none⟩)] (fun x => decide (x.kind < k)) N w l := by
  refine ⟨fun _ _ => by kernel_rfl, fun x W _ hW => ?_⟩
  have c1 : W.cell? ⟨kb, 0, none⟩ = some (.int .i64 k) := (hW.cell (p := ⟨kb, 0, none⟩) hkb).trans hc
  have z : kb < W.heap.size := by have := hW.size; omega
  clear hc hW
  show Calls Try.prog 50 #[.agg #[.int .i64 x.kind, .int .i64 x.flags, .string (B x.data)], .pointer (some ⟨kb, 0, none⟩)] W fun e W' => e = .returned (.bool (decide (x.kind < k))) ∧ Below W.heap.size W W'
  go_enter Try.func50, Try.ntmps50
  go_wp2
  go_ret
  exact ⟨rfl, (by repeat' (first | (with_reducible refine bset ?_ ?_) | (with_reducible exact Below.refl _ _) | (with_reducible assumption) | (with_reducible refine bdrewN ?_ _) | (with_reducible refine bdrew ?_) | (with_reducible refine balloc0 ?_) | (with_reducible refine balloc ?_ ?_) | (with_reducible apply btrans0; rotate_left; with_reducible assumption) | (with_reducible apply btrans; rotate_left; with_reducible assumption) | exact Below.refl _ _ | assumption | (apply btrans0; rotate_left; assumption) | (apply btrans; rotate_left; assumption) | (simp; done) | omega | (simp; omega)))⟩
set_option maxHeartbeats 1000000 in
theorem put2_pred (l : List Blk) (k : Int) (kb N : Nat) (w : World) (hkb : kb < N) (hN : N ≤ w.heap.size) (hc : w.cell? ⟨kb, 0, none⟩ = some (.int .i64 k)) :
    PredN 51 #[.pointer (some ⟨kb, 0, none⟩)] (fun x => decide (k < x.kind)) N w l := by
  refine ⟨fun _ _ => by kernel_rfl, fun x W _ hW => ?_⟩
  have c1 : W.cell? ⟨kb, 0, none⟩ = some (.int .i64 k) := (hW.cell (p := ⟨kb, 0, none⟩) hkb).trans hc
  have z : kb < W.heap.size := by have := hW.size; omega
  clear hc hW
  show Calls Try.prog 51 #[.agg #[.int .i64 x.kind, .int .i64 x.flags, .string (B x.data)], .pointer (some ⟨kb, 0, none⟩)] W fun e W' => e = .returned (.bool (decide (k < x.kind))) ∧ Below W.heap.size W W'
  go_enter Try.func51, Try.ntmps51
  go_wp2
  go_ret
  exact ⟨rfl, (by repeat' (first | (with_reducible refine bset ?_ ?_) | (with_reducible exact Below.refl _ _) | (with_reducible assumption) | (with_reducible refine bdrewN ?_ _) | (with_reducible refine bdrew ?_) | (with_reducible refine balloc0 ?_) | (with_reducible refine balloc ?_ ?_) | (with_reducible apply btrans0; rotate_left; with_reducible assumption) | (with_reducible apply btrans; rotate_left; with_reducible assumption) | exact Below.refl _ _ | assumption | (apply btrans0; rotate_left; assumption) | (apply btrans; rotate_left; assumption) | (simp; done) | omega | (simp; omega)))⟩

set_option maxHeartbeats 1000000 in
theorem remove_any (l : List Blk) (u : Value) (k : Int) (w : World) (h : RBlks w w.heap.size u l) (hl : l.length ≤ 1000) :
    Calls Try.prog 22 #[u, .int .i64 k] w (BlksPost (l.filter (fun x => x.kind != k)) w) := by
  have HR := Lib.hid h
  clear h
  go_enter Try.func22, Try.ntmps22
  go_wp2_with fail
  refine (filter_pred l u _ _ (fun x => x.kind != k) _ (HR.out.below (C := w.heap.size) (by repeat' (first | (with_reducible refine bset ?_ ?_) | (with_reducible exact Below.refl _ _) | (with_reducible assumption) | (with_reducible refine bdrewN ?_ _) | (with_reducible refine bdrew ?_) | (with_reducible refine balloc0 ?_) | (with_reducible refine balloc ?_ ?_) | (with_reducible apply btrans0; rotate_left; with_reducible assumption) | (with_reducible apply btrans; rotate_left; with_reducible assumption) | exact Below.refl _ _ | assumption | (apply btrans0; rotate_left; assumption) | (apply btrans; rotate_left; assumption) | (simp; done) | omega | (simp; omega))) (Nat.le_refl _) (by simp)) ((remove1_pred l k w.heap.size (w.heap.size + 1) _ (by omega) (by simp) (cellB heap_new 0)).at (by simp)) hl).mono ?_
  rintro e w1 ⟨v, rfl, hr1, hb1, ho1⟩
  go_wp2
  go_ret
  refine ⟨_, rfl, hr1, (by repeat' (first | (with_reducible refine bset ?_ ?_) | (with_reducible exact Below.refl _ _) | (with_reducible assumption) | (with_reducible refine bdrewN ?_ _) | (with_reducible refine bdrew ?_) | (with_reducible refine balloc0 ?_) | (with_reducible refine balloc ?_ ?_) | (with_reducible apply btrans0; rotate_left; with_reducible assumption) | (with_reducible apply btrans; rotate_left; with_reducible assumption) | exact Below.refl _ _ | assumption | (apply btrans0; rotate_left; assumption) | (apply btrans; rotate_left; assumption) | (simp; done) | omega | (simp; omega))), ?_⟩
  exact ⟨ho1.1, ho1.2.imp id fun ⟨g, cap, cur, h1, h2, h3⟩ => ⟨g, cap, cur, h1, by simp at h2; omega, h3⟩⟩

set_option maxRecDepth 100000 in
set_option maxHeartbeats 1000000 in
theorem find_any (l : List Blk) (u : Value) (k : Int) (w : World) (h : RBlks w w.heap.size u l) :
    Calls Try.prog 17 #[u, .int .i64 k] w fun e w' => e = .returned (.tuple #[.agg #[.int .i64 (findS l k).1.kind, .int .i64 (findS l k).1.flags, .string (B (findS l k).1.data)], .bool (findS l k).2]) ∧ Below w.heap.size w w' := by
  obtain ⟨a, c, rfl, h1, h2, h3, h4⟩ := id h
  unfold maxLen at h2
  have HR := Lib.hid h
  have H4 := Lib.hid h4
  clear h h3 h4
  go_enter Try.func17, Try.ntmps17
  go_wp2_with fail
  refine (index_pred l _ _ _ (fun x => x.kind == k) _ (HR.out.below (C := w.heap.size) (by repeat' (first | (with_reducible refine bset ?_ ?_) | (with_reducible exact Below.refl _ _) | (with_reducible assumption) | (with_reducible refine bdrewN ?_ _) | (with_reducible refine bdrew ?_) | (with_reducible refine balloc0 ?_) | (with_reducible refine balloc ?_ ?_) | (with_reducible apply btrans0; rotate_left; with_reducible assumption) | (with_reducible apply btrans; rotate_left; with_reducible assumption) | exact Below.refl _ _ | assumption | (apply btrans0; rotate_left; assumption) | (apply btrans; rotate_left; assumption) | (simp; done) | omega | (simp; omega))) (Nat.le_refl _) (by simp; omega)) ((find1_pred l k w.heap.size (w.heap.size + 1) _ (by omega) (by simp) (cellB ((Below.heap_alloc _ _ _ (by simp)).trans heap_new) 0)).at (by simp))).mono ?_
  rintro e w1 ⟨hb1, hcs⟩
  have z1 : w.heap.size + 1 < w1.heap.size := by have := hb1.size; simp at this; omega
  have hB1 : Below w.heap.size w w1 := (by repeat' (first | (with_reducible refine bset ?_ ?_) | (with_reducible exact Below.refl _ _) | (with_reducible assumption) | (with_reducible refine bdrewN ?_ _) | (with_reducible refine bdrew ?_) | (with_reducible refine balloc0 ?_) | (with_reducible refine balloc ?_ ?_) | (with_reducible apply btrans0; rotate_left; with_reducible assumption) | (with_reducible apply btrans; rotate_left; with_reducible assumption) | exact Below.refl _ _ | assumption | (apply btrans0; rotate_left; assumption) | (apply btrans; rotate_left; assumption) | (simp; done) | omega | (simp; omega)))
  have Z1 : w1.heap[w.heap.size + 1]? = some (.cells #[.int .i64 0, .int .i64 0, .string (B [])] 29 (0, 0)) := (hb1.block _ (by simp)).trans (by exact heap_new' (by simp))
  have ca := fun o => cellB Z1 o
  have fa := fun o => frozenB Z1 o
  clear hb1
  rcases hcs with ⟨rfl, hF⟩ | ⟨q, rfl, hq, hF, hT⟩
  · have HS := Lib.hid (findS_none hF)
    clear hF
    go_wp2
    rw [HS.out]
    refine bodyPost_ret (v := .tuple #[.agg #[.int .i64 0, .int .i64 0, .string { data := #[] }], .bool false]) (by simp [results, Try.results17, go_sem, World.cell?_setCell_same', ca]) rfl ?_
    exact ⟨rfl, (by repeat' (first | (with_reducible refine bset ?_ ?_) | (with_reducible exact Below.refl _ _) | (with_reducible assumption) | (with_reducible refine bdrewN ?_ _) | (with_reducible refine bdrew ?_) | (with_reducible refine balloc0 ?_) | (with_reducible refine balloc ?_ ?_) | (with_reducible apply btrans0; rotate_left; with_reducible assumption) | (with_reducible apply btrans; rotate_left; with_reducible assumption) | exact Below.refl _ _ | assumption | (apply btrans0; rotate_left; assumption) | (apply btrans; rotate_left; assumption) | (simp; done) | omega | (simp; omega)))⟩
  · obtain ⟨x, hx⟩ : ∃ x, l[q]? = some x := ⟨_, List.getElem?_eq_getElem hq⟩
    have HS := Lib.hid (findS_some hx hF (hT x hx))
    obtain ⟨bb, o, rfl, hbn, hcell⟩ := H4.out (by omega)
    obtain ⟨c1, c2, c3⟩ := (hcell q x hx).keep (fun o => hB1.cell (p := ⟨bb, o, none⟩) hbn)
    have k0 : (0 : Int) ≤ (q : Int) := by omega
    have k1 : (q : Int) < (l.length : Int) := by omega
    clear hF hT hx hcell
    go_wp2
    rw [HS.out]
    refine bodyPost_ret (v := .tuple #[.agg #[.int .i64 x.kind, .int .i64 x.flags, .string (B x.data)], .bool true]) (by simp [results, Try.results17, go_sem, World.cell?_setCell_same', ca]) rfl ?_
    exact ⟨rfl, (by repeat' (first | (with_reducible refine bset ?_ ?_) | (with_reducible exact Below.refl _ _) | (with_reducible assumption) | (with_reducible refine bdrewN ?_ _) | (with_reducible refine bdrew ?_) | (with_reducible refine balloc0 ?_) | (with_reducible refine balloc ?_ ?_) | (with_reducible apply btrans0; rotate_left; with_reducible assumption) | (with_reducible apply btrans; rotate_left; with_reducible assumption) | exact Below.refl _ _ | assumption | (apply btrans0; rotate_left; assumption) | (apply btrans; rotate_left; assumption) | (simp; done) | omega | (simp; omega)))⟩
end Go.Proofs.Ytdnbegcebloodaa
