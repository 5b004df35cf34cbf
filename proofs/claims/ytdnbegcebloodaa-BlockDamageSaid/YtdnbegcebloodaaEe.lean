/- Layer 12 (block), the program: Process. -/
import Derived.Test.YtdnbegcebloodaaEd
import Derived.Laws.EntriesVeiled
set_option linter.unusedVariables false
set_option linter.unusedSimpArgs false
namespace Go.Proofs.Ytdnbegcebloodaa
open Go Go.RowKit
attribute [local go_sem] B_getElem B_size B_app B_extract B_get B_toList

theorem caE_zero : ∀ {l : List Blk} {p : Option Int}, caE p l = 0 → ∀ x ∈ l, blkE x = 0
  | [], _, _, _, h => by simp at h
  | y :: l, p, h, x, hx => by
    rw [caE] at h
    split at h
    · exact absurd h ‹_›
    · split at h
      · cases h
      · rcases List.mem_cons.1 hx with rfl | hx
        · rename_i h1 _; exact Decidable.not_not.1 h1
        · exact caE_zero h x hx
theorem chkAll_zero {l : List Blk} (h : chkAll l = 0) : l.length ≤ 8 ∧ ∀ x ∈ l, blkE x = 0 := by
  unfold chkAll at h
  split at h
  · cases h
  · exact ⟨by omega, caE_zero h⟩
theorem chkAll_flags {l : List Blk} (h : chkAll l = 0) : ∀ x ∈ l, 0 ≤ x.flags ∧ x.flags ≤ 15 := fun x hx => by
  obtain ⟨_, _, h3, h4, _⟩ := blkE_zero ((chkAll_zero h).2 x hx)
  exact ⟨h3, h4⟩

/-- what Process answers -/
def prS (l : List Blk) (known : List Int) : List Blk × Bool × Int :=
  if chkAll l ≠ 0 then ([], false, 1) else if l.any (wit known 2) = true then ([], l.any (wit known 8), 28) else (l.filter (fun x => !wit known 4 x), l.any (wit known 8), 0)
def ProPost (r : List Blk × Bool × Int) (w : World) (e : Ending) (w' : World) : Prop := ∃ v, e = .returned (.tuple #[v, .bool r.2.1, .int .i64 r.2.2]) ∧ RBlks w' w'.heap.size v r.1 ∧ Below w.heap.size w w'

set_option maxHeartbeats 1000000 in
theorem process1_any (flag : Int) (kb : Addr) (w : World) :
    Calls Try.prog 44 #[.int .i64 flag, .pointer (some kb)] w fun e w' => e = .returned (.func (.func 45) #[] #[.pointer (some ⟨w.heap.size, 0, none⟩), .pointer (some kb)]) ∧ w' = w.alloc (.cells #[.int .i64 flag] 3) := by
  go_enter Try.func44, Try.ntmps44
  go_wp2
  go_ret
  exact ⟨rfl, rfl⟩

set_option maxRecDepth 100000 in
set_option maxHeartbeats 1000000 in
theorem process_any (l : List Blk) (known : List Int) (u v : Value) (w : World) (h : RBlks w w.heap.size u l) (hk : RInts w w.heap.size v known) (hd : ∀ x ∈ l, x.data.length ≤ maxLen) :
    Calls Try.prog 14 #[u, v] w (ProPost (prS l known) w) := by
  obtain ⟨va, vc, rfl, _⟩ := id hk
  have HU := Lib.hid h
  have HK := Lib.hid hk
  have HD := Lib.hid hd
  clear h hk hd
  by_cases hc : chkAll l = 0
  case neg =>
    have hp : prS l known = ([], false, 1) := by unfold prS; rw [if_pos hc]
    have hd2 : Hid (decide (chkAll l = 0) = false) := Lib.hid (decide_eq_false hc)
    rw [hp]
    clear hc hp
    go_enter Try.func14, Try.ntmps14
    go_wp2_with fail
    refine (valid_any l u _ (HU.out.below (C := w.heap.size) (by repeat' (first | (with_reducible refine bset ?_ ?_) | (with_reducible exact Below.refl _ _) | (with_reducible assumption) | (with_reducible refine bdrewN ?_ _) | (with_reducible refine bdrew ?_) | (with_reducible refine balloc0 ?_) | (with_reducible refine balloc ?_ ?_) | (with_reducible apply btrans0; rotate_left; with_reducible assumption) | (with_reducible apply btrans; rotate_left; with_reducible assumption) | exact Below.refl _ _ | assumption | (apply btrans0; rotate_left; assumption) | (apply btrans; rotate_left; assumption) | (simp; done) | omega | (simp; omega))) (Nat.le_refl _) (by simp)) HD.out).mono ?_
    rw [hd2.out]
    rintro e w1 ⟨rfl, hb1⟩
    go_wp2
    go_ret3
    exact ⟨_, rfl, RBlks.nil _ _, (by repeat' (first | (with_reducible refine bset ?_ ?_) | (with_reducible exact Below.refl _ _) | (with_reducible assumption) | (with_reducible refine bdrewN ?_ _) | (with_reducible refine bdrew ?_) | (with_reducible refine balloc0 ?_) | (with_reducible refine balloc ?_ ?_) | (with_reducible apply btrans0; rotate_left; with_reducible assumption) | (with_reducible apply btrans; rotate_left; with_reducible assumption) | exact Below.refl _ _ | assumption | (apply btrans0; rotate_left; assumption) | (apply btrans; rotate_left; assumption) | (simp; done) | omega | (simp; omega)))⟩
  have hd2 : Hid (decide (chkAll l = 0) = true) := Lib.hid (decide_eq_true hc)
  obtain ⟨hl8, _⟩ := chkAll_zero hc
  have HF := Lib.hid (chkAll_flags hc)
  obtain ⟨R, hR⟩ : ∃ R, l.any (wit known 8) = R := ⟨_, rfl⟩
  obtain ⟨D, hD⟩ : ∃ D, l.any (wit known 2) = D := ⟨_, rfl⟩
  have HRR := Lib.hid hR
  have HDD := Lib.hid hD
  have hp : prS l known = if D = true then ([], R, 28) else (l.filter (fun x => !wit known 4 x), R, 0) := by unfold prS; rw [if_neg (by simp [hc]), hR, hD]
  rw [hp]
  clear hp hR hD hc
  go_enter Try.func14, Try.ntmps14
  go_wp2_with fail
  refine (valid_any l u _ (HU.out.below (C := w.heap.size) (by repeat' (first | (with_reducible refine bset ?_ ?_) | (with_reducible exact Below.refl _ _) | (with_reducible assumption) | (with_reducible refine bdrewN ?_ _) | (with_reducible refine bdrew ?_) | (with_reducible refine balloc0 ?_) | (with_reducible refine balloc ?_ ?_) | (with_reducible apply btrans0; rotate_left; with_reducible assumption) | (with_reducible apply btrans; rotate_left; with_reducible assumption) | exact Below.refl _ _ | assumption | (apply btrans0; rotate_left; assumption) | (apply btrans; rotate_left; assumption) | (simp; done) | omega | (simp; omega))) (Nat.le_refl _) (by simp)) HD.out).mono ?_
  rw [hd2.out]
  rintro e w1 ⟨rfl, hb1⟩
  have z1 : w.heap.size < w1.heap.size := by have := hb1.size; simp at this; omega
  have hB1 : Below w.heap.size w w1 := (by repeat' (first | (with_reducible refine bset ?_ ?_) | (with_reducible exact Below.refl _ _) | (with_reducible assumption) | (with_reducible refine bdrewN ?_ _) | (with_reducible refine bdrew ?_) | (with_reducible refine balloc0 ?_) | (with_reducible refine balloc ?_ ?_) | (with_reducible apply btrans0; rotate_left; with_reducible assumption) | (with_reducible apply btrans; rotate_left; with_reducible assumption) | exact Below.refl _ _ | assumption | (apply btrans0; rotate_left; assumption) | (apply btrans; rotate_left; assumption) | (simp; done) | omega | (simp; omega)))
  have K1 : w1.heap[w.heap.size]? = some (.cells #[.slice va known.length vc] 23 (0, 0)) := (hb1.block _ (by simp)).trans heap_new
  clear hb1
  go_wp2_with fail
  refine (process1_any 8 _ _).mono ?_
  rintro e w2 ⟨rfl, rfl⟩
  go_wp2_with fail
  obtain ⟨W2, hW2⟩ : ∃ W2, w1.alloc (.cells #[.int .i64 8] 3) = W2 := ⟨_, rfl⟩
  have z2 : W2.heap.size = w1.heap.size + 1 := by rw [← hW2]; simp
  have hB2 : Below w.heap.size w W2 := by rw [← hW2]; exact (by repeat' (first | (with_reducible refine bset ?_ ?_) | (with_reducible exact Below.refl _ _) | (with_reducible assumption) | (with_reducible refine bdrewN ?_ _) | (with_reducible refine bdrew ?_) | (with_reducible refine balloc0 ?_) | (with_reducible refine balloc ?_ ?_) | (with_reducible apply btrans0; rotate_left; with_reducible assumption) | (with_reducible apply btrans; rotate_left; with_reducible assumption) | exact Below.refl _ _ | assumption | (apply btrans0; rotate_left; assumption) | (apply btrans; rotate_left; assumption) | (simp; done) | omega | (simp; omega)))
  have K2 : W2.heap[w.heap.size]? = some (.cells #[.slice va known.length vc] 23 (0, 0)) := by rw [← hW2]; exact (Below.heap_alloc _ _ _ z1).trans K1
  have F2 : W2.heap[w1.heap.size]? = some (.cells #[.int .i64 8] 3 (0, 0)) := by rw [← hW2]; exact heap_new
  rw [hW2]
  clear hW2 K1 hB1
  refine (containsFunc_pred l u _ _ (wit known 8) _ (HU.out.below (C := w.heap.size) hB2 (Nat.le_refl _) hB2.size) (with_pred l known _ 8 w1.heap.size w.heap.size W2 HF.out (.inr (.inr (.inr rfl))) (cellB F2 0) (cellB K2 0) (by omega) (by omega) (HK.out.below (C := w.heap.size) hB2 (Nat.le_refl _) hB2.size))).mono ?_
  rw [HRR.out]
  rintro e w3 ⟨rfl, hb3⟩
  have z3 : W2.heap.size ≤ w3.heap.size := hb3.size
  have hB3 : Below w.heap.size w w3 := (by repeat' (first | (with_reducible refine bset ?_ ?_) | (with_reducible exact Below.refl _ _) | (with_reducible assumption) | (with_reducible refine bdrewN ?_ _) | (with_reducible refine bdrew ?_) | (with_reducible refine balloc0 ?_) | (with_reducible refine balloc ?_ ?_) | (with_reducible apply btrans0; rotate_left; with_reducible assumption) | (with_reducible apply btrans; rotate_left; with_reducible assumption) | exact Below.refl _ _ | assumption | (apply btrans0; rotate_left; assumption) | (apply btrans; rotate_left; assumption) | (simp; done) | omega | (simp; omega)))
  have K3 := (hb3.block w.heap.size (by omega)).trans K2
  clear hb3 K2 F2 hB2
  go_wp2_with fail
  refine (process1_any 2 _ _).mono ?_
  rintro e w4 ⟨rfl, rfl⟩
  go_wp2_with fail
  obtain ⟨W4, hW4⟩ : ∃ W4, w3.alloc (.cells #[.int .i64 2] 3) = W4 := ⟨_, rfl⟩
  have z4 : W4.heap.size = w3.heap.size + 1 := by rw [← hW4]; simp
  have hB4 : Below w.heap.size w W4 := by rw [← hW4]; exact (by repeat' (first | (with_reducible refine bset ?_ ?_) | (with_reducible exact Below.refl _ _) | (with_reducible assumption) | (with_reducible refine bdrewN ?_ _) | (with_reducible refine bdrew ?_) | (with_reducible refine balloc0 ?_) | (with_reducible refine balloc ?_ ?_) | (with_reducible apply btrans0; rotate_left; with_reducible assumption) | (with_reducible apply btrans; rotate_left; with_reducible assumption) | exact Below.refl _ _ | assumption | (apply btrans0; rotate_left; assumption) | (apply btrans; rotate_left; assumption) | (simp; done) | omega | (simp; omega)))
  have K4 : W4.heap[w.heap.size]? = some (.cells #[.slice va known.length vc] 23 (0, 0)) := by rw [← hW4]; exact (Below.heap_alloc _ _ _ (by omega)).trans K3
  have F4 : W4.heap[w3.heap.size]? = some (.cells #[.int .i64 2] 3 (0, 0)) := by rw [← hW4]; exact heap_new
  rw [hW4]
  clear hW4 K3 hB3
  refine (containsFunc_pred l u _ _ (wit known 2) _ (HU.out.below (C := w.heap.size) hB4 (Nat.le_refl _) hB4.size) (with_pred l known _ 2 w3.heap.size w.heap.size W4 HF.out (.inr (.inl rfl)) (cellB F4 0) (cellB K4 0) (by omega) (by omega) (HK.out.below (C := w.heap.size) hB4 (Nat.le_refl _) hB4.size))).mono ?_
  rw [HDD.out]
  rintro e w5 ⟨rfl, hb5⟩
  have z5 : W4.heap.size ≤ w5.heap.size := hb5.size
  have hB5 : Below w.heap.size w w5 := (by repeat' (first | (with_reducible refine bset ?_ ?_) | (with_reducible exact Below.refl _ _) | (with_reducible assumption) | (with_reducible refine bdrewN ?_ _) | (with_reducible refine bdrew ?_) | (with_reducible refine balloc0 ?_) | (with_reducible refine balloc ?_ ?_) | (with_reducible apply btrans0; rotate_left; with_reducible assumption) | (with_reducible apply btrans; rotate_left; with_reducible assumption) | exact Below.refl _ _ | assumption | (apply btrans0; rotate_left; assumption) | (apply btrans; rotate_left; assumption) | (simp; done) | omega | (simp; omega)))
  have K5 := (hb5.block w.heap.size (by omega)).trans K4
  clear hb5 K4 F4 hB4 HDD
  cases D with
  | true =>
    go_wp2
    go_ret3
    exact ⟨_, rfl, RBlks.nil _ _, hB5⟩
  | false =>
    go_wp2_with fail
    refine (process1_any 4 _ _).mono ?_
    rintro e w6 ⟨rfl, rfl⟩
    go_wp2_with fail
    obtain ⟨W6, hW6⟩ : ∃ W6, (w5.alloc (.cells #[.int .i64 4] 3)).alloc (.cells #[.func (.func 45) #[] #[.pointer (some ⟨w5.heap.size, 0, none⟩), .pointer (some ⟨w.heap.size, 0, none⟩)]] 45) = W6 := ⟨_, rfl⟩
    have z6 : W6.heap.size = w5.heap.size + 2 := by rw [← hW6]; simp
    have hB6 : Below w.heap.size w W6 := by rw [← hW6]; exact (by repeat' (first | (with_reducible refine bset ?_ ?_) | (with_reducible exact Below.refl _ _) | (with_reducible assumption) | (with_reducible refine bdrewN ?_ _) | (with_reducible refine bdrew ?_) | (with_reducible refine balloc0 ?_) | (with_reducible refine balloc ?_ ?_) | (with_reducible apply btrans0; rotate_left; with_reducible assumption) | (with_reducible apply btrans; rotate_left; with_reducible assumption) | exact Below.refl _ _ | assumption | (apply btrans0; rotate_left; assumption) | (apply btrans; rotate_left; assumption) | (simp; done) | omega | (simp; omega)))
    have K6 : W6.heap[w.heap.size]? = some (.cells #[.slice va known.length vc] 23 (0, 0)) := by rw [← hW6]; exact ((Below.heap_alloc _ _ _ (by simp; omega)).trans (Below.heap_alloc _ _ _ (by omega))).trans K5
    have F6 : W6.heap[w5.heap.size]? = some (.cells #[.int .i64 4] 3 (0, 0)) := by rw [← hW6]; exact (Below.heap_alloc _ _ _ (by simp)).trans heap_new
    have G6 : W6.heap[w5.heap.size + 1]? = some (.cells #[.func (.func 45) #[] #[.pointer (some ⟨w5.heap.size, 0, none⟩), .pointer (some ⟨w.heap.size, 0, none⟩)]] 45 (0, 0)) := by rw [← hW6]; exact heap_new' (by simp)
    rw [hW6]
    clear hW6 K5 hB5
    refine (filter_pred l u _ _ (fun x => !wit known 4 x) _ (HU.out.below (C := w.heap.size) hB6 (Nat.le_refl _) hB6.size) (drop_pred l _ _ (wit known 4) (w5.heap.size + 1) W6 (with_pred l known _ 4 w5.heap.size w.heap.size W6 HF.out (.inr (.inr (.inl rfl))) (cellB F6 0) (cellB K6 0) (by omega) (by omega) (HK.out.below (C := w.heap.size) hB6 (Nat.le_refl _) hB6.size)) (cellB G6 0) (by omega)) (by omega)).mono ?_
    rintro e w7 ⟨vo, rfl, hr7, hb7, _⟩
    go_wp2
    go_ret3
    exact ⟨vo, rfl, hr7, (by repeat' (first | (with_reducible refine bset ?_ ?_) | (with_reducible exact Below.refl _ _) | (with_reducible assumption) | (with_reducible refine bdrewN ?_ _) | (with_reducible refine bdrew ?_) | (with_reducible refine balloc0 ?_) | (with_reducible refine balloc ?_ ?_) | (with_reducible apply btrans0; rotate_left; with_reducible assumption) | (with_reducible apply btrans; rotate_left; with_reducible assumption) | exact Below.refl _ _ | assumption | (apply btrans0; rotate_left; assumption) | (apply btrans; rotate_left; assumption) | (simp; done) | omega | (simp; omega)))⟩
end Go.Proofs.Ytdnbegcebloodaa
