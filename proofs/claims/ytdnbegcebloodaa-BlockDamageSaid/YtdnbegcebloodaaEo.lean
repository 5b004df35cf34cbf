/- Layer 12's reference: Find, Remove, contains, Has, Process. -/
import Derived.Test.YtdnbegcebloodaaPc
import Derived.Test.YtdnbegcebloodaaEf
set_option linter.unusedVariables false
set_option linter.unusedSimpArgs false
namespace Go.Proofs.Ytdnbegcebloodaa
open Go Go.RowKit
attribute [local go_sem] B_getElem B_size B_app B_extract B_get B_toList

set_option maxRecDepth 100000 in
set_option maxHeartbeats 1000000 in
theorem rfind_any (l : List Blk) (u : Value) (k : Int) (w : World) (h : RBlks w w.heap.size u l) :
    Calls Try.prog 18 #[u, .int .i64 k] w fun e w' => e = .returned (.tuple #[.agg #[.int .i64 (findS l k).1.kind, .int .i64 (findS l k).1.flags, .string (B (findS l k).1.data)], .bool (findS l k).2]) ∧ Below w.heap.size w w' := by
  obtain ⟨a, c, rfl, h1, h2, h3, h4⟩ := h
  unfold maxLen at h2
  have hlen : l.length ≤ 9223372036854775807 := by omega
  have H4 := Lib.hid h4
  clear h3 h4
  go_enter Try.func18, Try.ntmps18
  go_wp2
  go_loopw [6] (fun i wr => ∃ q : Nat, q ≤ l.length ∧ i = .int .i64 q ∧ Hid (∀ x ∈ l.take q, (x.kind == k) = false) ∧ Below w.heap.size w wr ∧ Hid (wr.heap[w.heap.size]? = some (.cells #[.int .i64 0, .int .i64 0, .string (B [])] 29 (0, 0)))) (fun i _ => l.length - (intOf i).toNat)
  case atStart => exact ⟨0, Nat.zero_le _, rfl, Lib.hid (by simp), (by repeat' (first | (with_reducible refine bset ?_ ?_) | (with_reducible exact Below.refl _ _) | (with_reducible assumption) | (with_reducible refine bdrewN ?_ _) | (with_reducible refine bdrew ?_) | (with_reducible refine balloc0 ?_) | (with_reducible refine balloc ?_ ?_) | (with_reducible apply btrans0; rotate_left; with_reducible assumption) | (with_reducible apply btrans; rotate_left; with_reducible assumption) | exact Below.refl _ _ | assumption | (apply btrans0; rotate_left; assumption) | (apply btrans; rotate_left; assumption) | (simp; done) | omega | (simp; omega))), Lib.hid (by exact heap_new)⟩
  case round =>
    obtain ⟨q, hk, rfl, HF, hB, HZ⟩ := hrel
    have ca := fun o => cellB HZ.out o
    have fa := fun o => frozenB HZ.out o
    have zr : w.heap.size < wr.heap.size := (Array.getElem?_eq_some_iff.1 HZ.out).1
    by_cases hlt : q < l.length
    · obtain ⟨bb, o, rfl, hbn, hcell⟩ := H4.out (by omega)
      obtain ⟨x, hx⟩ : ∃ x, l[q]? = some x := ⟨_, List.getElem?_eq_getElem hlt⟩
      obtain ⟨c1, c2, c3⟩ := (hcell q x hx).keep (fun o => hB.cell (p := ⟨bb, o, none⟩) hbn)
      have k0 : (0 : Int) ≤ (q : Int) := by omega
      have k1 : (q : Int) < (l.length : Int) := by omega
      have HX := Lib.hid hx
      clear hx hcell
      by_cases hq : x.kind = k
      · have hq2 : (x.kind == k) = true := beq_iff_eq.2 hq
        have HS := Lib.hid (findS_some HX.out HF.out hq2)
        clear hq
        go_wp2
        rw [HS.out]
        refine bodyPost_ret (v := .tuple #[.agg #[.int .i64 x.kind, .int .i64 x.flags, .string (B x.data)], .bool true]) (by simp [results, Try.results18, go_sem, World.cell?_setCell_same', ca]) rfl ?_
        exact ⟨rfl, (by repeat' (first | (with_reducible refine bset ?_ ?_) | (with_reducible exact Below.refl _ _) | (with_reducible assumption) | (with_reducible refine bdrewN ?_ _) | (with_reducible refine bdrew ?_) | (with_reducible refine balloc0 ?_) | (with_reducible refine balloc ?_ ?_) | (with_reducible apply btrans0; rotate_left; with_reducible assumption) | (with_reducible apply btrans; rotate_left; with_reducible assumption) | exact Below.refl _ _ | assumption | (apply btrans0; rotate_left; assumption) | (apply btrans; rotate_left; assumption) | (simp; done) | omega | (simp; omega)))⟩
      · have hq2 : (x.kind == k) = false := beq_eq_false_iff_ne.2 hq
        have HQ := Lib.hid hq2
        clear hq ca fa
        go_wp2
        go_roundw
        case rel =>
          refine ⟨q + 1, by omega, by go_num, Lib.hid ?_, hB, HZ⟩
          intro y hy
          rw [List.take_add_one, HX.out] at hy
          rcases List.mem_append.1 hy with hy | hy
          · exact HF.out y hy
          · simp at hy; subst hy; exact HQ.out
        case measure => simp [intOf]; omega
    · obtain rfl : q = l.length := by omega
      have HS := Lib.hid (findS_none (l := l) (k := k) (by have := HF.out; rwa [List.take_length] at this))
      go_wp2
      rw [HS.out]
      refine bodyPost_ret (v := .tuple #[.agg #[.int .i64 0, .int .i64 0, .string { data := #[] }], .bool false]) (by simp [results, Try.results18, go_sem, World.cell?_setCell_same', ca]) rfl ?_
      exact ⟨rfl, (by repeat' (first | (with_reducible refine bset ?_ ?_) | (with_reducible exact Below.refl _ _) | (with_reducible assumption) | (with_reducible refine bdrewN ?_ _) | (with_reducible refine bdrew ?_) | (with_reducible refine balloc0 ?_) | (with_reducible refine balloc ?_ ?_) | (with_reducible apply btrans0; rotate_left; with_reducible assumption) | (with_reducible apply btrans; rotate_left; with_reducible assumption) | exact Below.refl _ _ | assumption | (apply btrans0; rotate_left; assumption) | (apply btrans; rotate_left; assumption) | (simp; done) | omega | (simp; omega)))⟩

set_option maxRecDepth 100000 in
set_option maxHeartbeats 1000000 in
theorem rremove_any (l : List Blk) (u : Value) (k : Int) (w : World) (h : RBlks w w.heap.size u l) (hl : l.length ≤ 1000) :
    Calls Try.prog 23 #[u, .int .i64 k] w (BlksPost (l.filter (fun x => x.kind != k)) w) := by
  obtain ⟨a, c, rfl, h1, h2, h3, h4⟩ := h
  unfold maxLen at h2
  have H4 := Lib.hid h4
  obtain ⟨i0, hin, hz0, hz1, hz2⟩ := info_parts infoBlk
  clear h3 h4
  go_enter Try.func23, Try.ntmps23
  go_wp2
  go_loopw [6, 5] (fun i s wr => ∃ (q n' : Nat) (vo : Value), s = vo ∧ q ≤ l.length ∧ i = .int .i64 q ∧ n' ≤ q ∧ wr.ownsRow w.heap.size 29 3 vo n' (((l.take q).filter (fun x => x.kind != k)).flatMap blkC) ∧ Below w.heap.size w wr) (fun i _ _ => l.length - (intOf i).toNat)
  case atStart => exact ⟨0, 0, _, rfl, Nat.zero_le _, rfl, Nat.le_refl _, World.ownsRow_made w #[] 0 (Nat.le_refl _) (by simp) rfl, (by repeat' (first | (with_reducible refine bset ?_ ?_) | (with_reducible exact Below.refl _ _) | (with_reducible assumption) | (with_reducible refine bdrewN ?_ _) | (with_reducible refine bdrew ?_) | (with_reducible refine balloc0 ?_) | (with_reducible refine balloc ?_ ?_) | (with_reducible apply btrans0; rotate_left; with_reducible assumption) | (with_reducible apply btrans; rotate_left; with_reducible assumption) | exact Below.refl _ _ | assumption | (apply btrans0; rotate_left; assumption) | (apply btrans; rotate_left; assumption) | (simp; done) | omega | (simp; omega)))⟩
  case round =>
    obtain ⟨q, n', vo, e7, hk, rfl, hn, hown, hB⟩ := hrel
    have e7' := e7.symm
    clear e7
    subst e7'
    by_cases hlt : q < l.length
    · obtain ⟨bb, o, rfl, hbn, hcell⟩ := H4.out (by omega)
      obtain ⟨x, hx⟩ : ∃ x, l[q]? = some x := ⟨_, List.getElem?_eq_getElem hlt⟩
      obtain ⟨c1, c2, c3⟩ := (hcell q x hx).keep (fun o => hB.cell (p := ⟨bb, o, none⟩) hbn)
      have k0 : (0 : Int) ≤ (q : Int) := by omega
      have k1 : (q : Int) < (l.length : Int) := by omega
      have HX := Lib.hid hx
      have hsz := hB.size
      clear hx hcell
      by_cases hq : x.kind = k
      · have hq2 : (x.kind == k) = true := beq_iff_eq.2 hq
        have HQ : Hid ((fun x : Blk => x.kind != k) x = false) := Lib.hid (by simp [hq])
        clear hq
        go_wp2
        go_roundw
        case rel => exact ⟨q + 1, n', _, rfl, by omega, by go_num, by omega, by rw [flat_skip HX.out HQ.out]; exact hown, hB⟩
        case measure => simp [intOf]; omega
      · have hq2 : (x.kind == k) = false := beq_eq_false_iff_ne.2 hq
        have HQ : Hid ((fun x : Blk => x.kind != k) x = true) := Lib.hid (by simpa using hq)
        clear hq
        go_wp2_with (at_builtin; refine wpList_append_lies _ rfl _ _ _ rfl w.heap.size 29 i0 _ 3 32 Try.underlying22 hin hz0 hz1 hz2 rfl (by omega) vo n' _ rfl (hown.alloc _) ⟨wr.heap.size, 0, none⟩ 1 1 (blkC x) rfl rfl (news_one (t := 29) (by exact heap_new)) (blkC_one x) (by omega) (by simp only [maxLen]; omega) (by omega) (by simp; omega) (wr.heap.size + 1) (by simp) ?_; intro g cap w5 hown5 hg5 hat5 hlt5)
        have hB4 : Below w.heap.size w w5 := (balloc hB (by omega)).grown hg5 (by simp; omega) (fun q hq => (hown.lt q hq).1)
        have HO := Lib.hid hown5
        clear hown5 hg5 hat5 hown
        go_wp2
        go_roundw
        case rel => exact ⟨q + 1, n' + 1, _, rfl, by omega, by go_num, by omega, by rw [flat_snoc HX.out HQ.out]; exact HO.out, hB4⟩
        case measure => simp [intOf]; omega
    · obtain rfl : q = l.length := by omega
      rw [List.take_length] at hown
      have hn' : n' = (l.filter (fun x => x.kind != k)).length := by have := hown.1; rw [flat_len blkC 3 blkC_len] at this; omega
      subst hn'
      go_wp2
      go_ret
      exact ⟨_, rfl, RBlks.of_own hown, hB, hown⟩

set_option maxRecDepth 100000 in
set_option maxHeartbeats 1000000 in
theorem rcontains_any (l : List Int) (u : Value) (n : Int) (w : World) (h : RInts w w.heap.size u l) :
    Calls Try.prog 52 #[u, .int .i64 n] w fun e w' => e = .returned (.bool (l.contains n)) ∧ w' = w := by
  obtain ⟨a, c, rfl, h1, h2, h3, h4⟩ := h
  unfold maxLen at h2
  have hlen : l.length ≤ 9223372036854775807 := by omega
  have H4 := Lib.hid h4
  clear h3 h4
  go_enter Try.func52, Try.ntmps52
  go_wp2
  go_loopw [5] (fun i wr => ∃ k : Nat, k ≤ l.length ∧ i = .int .i64 k ∧ Hid (∀ x ∈ l.take k, n ≠ x) ∧ wr = w) (fun i _ => l.length - (intOf i).toNat)
  case atStart => exact ⟨0, Nat.zero_le _, rfl, Lib.hid (by simp), rfl⟩
  case round =>
    obtain ⟨k, hk, rfl, HF, rfl⟩ := hrel
    by_cases hlt : k < l.length
    · obtain ⟨bb, o, rfl, hbn, hcell⟩ := H4.out (by omega)
      obtain ⟨x, hx⟩ : ∃ x, l[k]? = some x := ⟨_, List.getElem?_eq_getElem hlt⟩
      have c1 := hcell k x hx
      have k0 : (0 : Int) ≤ (k : Int) := by omega
      have k1 : (k : Int) < (l.length : Int) := by omega
      have HX := Lib.hid hx
      clear hx hcell
      by_cases hq : x = n
      · have hq2 : (x == n) = true := beq_iff_eq.2 hq
        have HQ : Hid (l.contains n = true) := Lib.hid (by rw [List.contains_iff_mem, ← hq]; exact List.mem_of_getElem? HX.out)
        clear hq
        go_wp2
        go_ret
        exact ⟨by rw [HQ.out]; rfl, rfl⟩
      · have hq2 : (x == n) = false := beq_eq_false_iff_ne.2 hq
        have HQ := Lib.hid hq
        clear hq
        go_wp2
        go_roundw
        case rel =>
          refine ⟨k + 1, by omega, by go_num, Lib.hid ?_, trivial⟩
          intro y hy
          rw [List.take_add_one, HX.out] at hy
          rcases List.mem_append.1 hy with hy | hy
          · exact HF.out y hy
          · simp at hy; subst hy; exact fun e => HQ.out e.symm
        case measure => simp [intOf]; omega
    · obtain rfl : k = l.length := by omega
      have HQ : Hid (l.contains n = false) := Lib.hid (by
        have := HF.out
        rw [List.take_length] at this
        cases hc : l.contains n with
        | false => rfl
        | true => exact absurd rfl (this n (List.contains_iff_mem.1 hc)))
      go_wp2
      go_ret
      exact ⟨by rw [HQ.out]; rfl, rfl⟩

set_option maxHeartbeats 1000000 in
theorem rhas_any (x : Blk) (f : Int) (w : World) (h1 : 0 ≤ x.flags) (h2 : x.flags ≤ 15) (hf : f = 2 ∨ f = 4 ∨ f = 8) :
    Calls Try.prog 53 #[.agg #[.int .i64 x.kind, .int .i64 x.flags, .string (B x.data)], .int .i64 f] w fun e w' => e = .returned (.bool (hasF x.flags f)) ∧ Below w.heap.size w w' := by
  have hh : hasF x.flags f = (x.flags / f % 2 == 1) := rfl
  rw [hh]
  rcases hf with rfl | rfl | rfl
  all_goals
    go_enter Try.func53, Try.ntmps53
    go_wp2
    go_ret
    exact ⟨rfl, (by repeat' (first | (with_reducible refine bset ?_ ?_) | (with_reducible exact Below.refl _ _) | (with_reducible assumption) | (with_reducible refine bdrewN ?_ _) | (with_reducible refine bdrew ?_) | (with_reducible refine balloc0 ?_) | (with_reducible refine balloc ?_ ?_) | (with_reducible apply btrans0; rotate_left; with_reducible assumption) | (with_reducible apply btrans; rotate_left; with_reducible assumption) | exact Below.refl _ _ | assumption | (apply btrans0; rotate_left; assumption) | (apply btrans; rotate_left; assumption) | (simp; done) | omega | (simp; omega)))⟩
end Go.Proofs.Ytdnbegcebloodaa
