/-
  Proved: mailboatlaw12.BlockPuts returns true for every input, and leaves its arguments as they were. No condition.
-/
import Derived.Test.YtdnbegcebloodaaRows
import Derived.Test.YtdnbegcebloodaaGj
import Derived.Test.YtdnbegcebloodaaEg
import Derived.Test.YtdnbegcebloodaaPc
import Derived.Test.YtdnbegcebloodaaR
import Derived.Test.YtdnbegcebloodaaL
set_option linter.unusedVariables false
set_option linter.unusedSimpArgs false
namespace Go.Proofs.Ytdnbegcebloodaa.blockPuts
open Go Go.ChangeShapes Go.WideShapes Go.ChangeAt Go.RowKit Go.Joins Go.Proofs.Ytdnbegcebloodaa
attribute [local go_sem] B_getElem B_size B_app B_extract B_get B_toList
attribute [local go_sem ↓] eqBlk

theorem own : ownKnob Try.prog.godebug = none := by kernel_rfl

set_option maxRecDepth 100000 in
set_option maxHeartbeats 3000000 in
/-- two blocks in a row -/
theorem RBlks.lit2 {w : World} {N g : Nat} {t : TypeId} {x y : Blk} (h : w.heap[g]? = some (.cells #[.int .i64 x.kind, .int .i64 x.flags, .string (B x.data), .int .i64 y.kind, .int .i64 y.flags, .string (B y.data)] t (0, 0))) (hg : g < N) : RBlks w N (.slice (some ⟨g, 0, Option.none⟩) 2 2) [x, y] :=
  ⟨_, 2, rfl, by simp, by simp [maxLen], (fun h => by cases h), fun _ => ⟨g, 0, rfl, hg, fun i z hz => by
    match i, hz with
    | 0, hz => simp at hz; subst hz; exact ⟨cellB h 0, cellB h 1, cellB h 2⟩
    | 1, hz => simp at hz; subst hz; exact ⟨cellB h 3, cellB h 4, cellB h 5⟩
    | i + 2, hz => simp at hz⟩⟩
set_option maxRecDepth 100000 in
set_option maxHeartbeats 3000000 in
theorem walk (l : List Blk) (u : Value) (b c : Blk) (w : World) (hr : RBlks w w.heap.size u l) (hd : ∀ x ∈ l, x.data.length ≤ maxLen) (hdb : b.data.length ≤ maxLen) (hdc : c.data.length ≤ maxLen) :
    Calls Try.prog 5 #[u, .agg #[.int .i64 b.kind, .int .i64 b.flags, .string (B b.data)], .agg #[.int .i64 c.kind, .int .i64 c.flags, .string (B c.data)]] w (Says w) := by
  obtain ⟨ua, uc, rfl, _⟩ := id hr
  have HR := Lib.hid hr
  have HD := Lib.hid hd
  have HDB := Lib.hid hdb
  have HDC := Lib.hid hdc
  clear hr hd hdb hdc
  go_enter Try.func5, Try.ntmps5
  go_wp2_with fail
  refine (lawGreat_any l _ [] _ (HR.out.below (C := w.heap.size) (by repeat' (first | (with_reducible refine bset ?_ ?_) | (with_reducible exact Below.refl _ _) | (with_reducible assumption) | (with_reducible refine bdrewN ?_ _) | (with_reducible refine bdrew ?_) | (with_reducible refine balloc0 ?_) | (with_reducible refine balloc ?_ ?_) | (with_reducible apply btrans0; rotate_left; with_reducible assumption) | (with_reducible apply btrans; rotate_left; with_reducible assumption) | exact Below.refl _ _ | assumption | (apply btrans0; rotate_left; assumption) | (apply btrans; rotate_left; assumption) | (simp; done) | omega | (simp; omega))) (Nat.le_refl _) (by simp; omega)) HD.out (by simp [maxLen])).mono ?_
  rintro e w1 ⟨g, rfl, hb1⟩
  have z1 : w.heap.size + 1 < w1.heap.size := by have := hb1.size; simp at this; omega
  have hB1 : Below w.heap.size w w1 := (by repeat' (first | (with_reducible refine bset ?_ ?_) | (with_reducible exact Below.refl _ _) | (with_reducible assumption) | (with_reducible refine bdrewN ?_ _) | (with_reducible refine bdrew ?_) | (with_reducible refine balloc0 ?_) | (with_reducible refine balloc ?_ ?_) | (with_reducible apply btrans0; rotate_left; with_reducible assumption) | (with_reducible apply btrans; rotate_left; with_reducible assumption) | exact Below.refl _ _ | assumption | (apply btrans0; rotate_left; assumption) | (apply btrans; rotate_left; assumption) | (simp; done) | omega | (simp; omega)))
  have B1 : w1.heap[w.heap.size]? = some (.cells #[.int .i64 b.kind, .int .i64 b.flags, .string (B b.data)] 29 (0, 0)) := (hb1.block _ (by simp; omega)).trans ((Below.heap_alloc _ _ _ (by simp)).trans heap_new)
  have C1 : w1.heap[w.heap.size + 1]? = some (.cells #[.int .i64 c.kind, .int .i64 c.flags, .string (B c.data)] 29 (0, 0)) := (hb1.block _ (by simp)).trans (heap_new' (by simp))
  clear hb1
  cases g
  case true =>
    go_wp2_with fail
    refine (awake_any _).mono ?_
    rintro e w9 ⟨rfl, hb9⟩
    go_wp2
    go_ret
    exact ⟨rfl, (by repeat' (first | (with_reducible refine bset ?_ ?_) | (with_reducible exact Below.refl _ _) | (with_reducible assumption) | (with_reducible refine bdrewN ?_ _) | (with_reducible refine bdrew ?_) | (with_reducible refine balloc0 ?_) | (with_reducible refine balloc ?_ ?_) | (with_reducible apply btrans0; rotate_left; with_reducible assumption) | (with_reducible apply btrans; rotate_left; with_reducible assumption) | exact Below.refl _ _ | assumption | (apply btrans0; rotate_left; assumption) | (apply btrans; rotate_left; assumption) | (simp; done) | omega | (simp; omega)))⟩
  have cb := fun o => cellB B1 o
  have cc := fun o => cellB C1 o
  have z1' : w.heap.size < w1.heap.size := by omega
  go_wp2_with fail
  refine (lawGreat_any [b, c] _ [] _ (RBlks.lit2 (x := b) (y := c) (t := 29) (by exact heap_new) (by simp)) (fun x hx => by simp at hx; rcases hx with rfl | rfl; exact HDB.out; exact HDC.out) (by simp [maxLen])).mono ?_
  rintro e w2 ⟨g, rfl, hb2⟩
  have z2 : w.heap.size + 1 < w2.heap.size := by have := hb2.size; simp at this; omega
  have hB2 : Below w.heap.size w w2 := (by repeat' (first | (with_reducible refine bset ?_ ?_) | (with_reducible exact Below.refl _ _) | (with_reducible assumption) | (with_reducible refine bdrewN ?_ _) | (with_reducible refine bdrew ?_) | (with_reducible refine balloc0 ?_) | (with_reducible refine balloc ?_ ?_) | (with_reducible apply btrans0; rotate_left; with_reducible assumption) | (with_reducible apply btrans; rotate_left; with_reducible assumption) | exact Below.refl _ _ | assumption | (apply btrans0; rotate_left; assumption) | (apply btrans; rotate_left; assumption) | (simp; done) | omega | (simp; omega)))
  have B2 := (hb2.block w.heap.size (by simp; omega)).trans ((Below.heap_alloc _ _ _ (by omega)).trans B1)
  have C2 := (hb2.block (w.heap.size + 1) (by simp; omega)).trans ((Below.heap_alloc _ _ _ (by omega)).trans C1)
  clear hb2 B1 C1 cb cc hB1
  cases g
  case true =>
    go_wp2_with fail
    refine (awake_any _).mono ?_
    rintro e w9 ⟨rfl, hb9⟩
    go_wp2
    go_ret
    exact ⟨rfl, (by repeat' (first | (with_reducible refine bset ?_ ?_) | (with_reducible exact Below.refl _ _) | (with_reducible assumption) | (with_reducible refine bdrewN ?_ _) | (with_reducible refine bdrew ?_) | (with_reducible refine balloc0 ?_) | (with_reducible refine balloc ?_ ?_) | (with_reducible apply btrans0; rotate_left; with_reducible assumption) | (with_reducible apply btrans; rotate_left; with_reducible assumption) | exact Below.refl _ _ | assumption | (apply btrans0; rotate_left; assumption) | (apply btrans; rotate_left; assumption) | (simp; done) | omega | (simp; omega)))⟩
  have cb := fun o => cellB B2 o
  have cc := fun o => cellB C2 o
  have z2' : w.heap.size < w2.heap.size := by omega
  go_wp2_with fail
  refine (put_any l _ b _ (HR.out.below hB2 (Nat.le_refl _) hB2.size) HD.out HDB.out).mono ?_
  obtain ⟨⟨m, E⟩, hm⟩ : ∃ x, putS l b = x := ⟨_, rfl⟩
  have HM := Lib.hid hm
  rw [hm]
  rintro e w3 ⟨um, rfl, hr3, hb3, hrf⟩
  have HRF := Lib.hid hrf
  have z3 : w.heap.size + 1 < w3.heap.size := by have := hb3.size; omega
  have z3' : w.heap.size < w3.heap.size := by omega
  have z23 : w2.heap.size ≤ w3.heap.size := hb3.size
  have hB3 : Below w.heap.size w w3 := (by repeat' (first | (with_reducible refine bset ?_ ?_) | (with_reducible exact Below.refl _ _) | (with_reducible assumption) | (with_reducible refine bdrewN ?_ _) | (with_reducible refine bdrew ?_) | (with_reducible refine balloc0 ?_) | (with_reducible refine balloc ?_ ?_) | (with_reducible apply btrans0; rotate_left; with_reducible assumption) | (with_reducible apply btrans; rotate_left; with_reducible assumption) | exact Below.refl _ _ | assumption | (apply btrans0; rotate_left; assumption) | (apply btrans; rotate_left; assumption) | (simp; done) | omega | (simp; omega)))
  have B3 := (hb3.block w.heap.size (by omega)).trans B2
  have C3 := (hb3.block (w.heap.size + 1) (by omega)).trans C2
  have M3 := Lib.hid hr3
  clear hb3 B2 C2 cb cc hB2 hm hrf
  obtain ⟨am, cm, rfl, _⟩ := id hr3
  simp only at hr3 ⊢
  by_cases hE : E = 0
  case neg =>
    have hE2 : (E == 0) = false := beq_eq_false_iff_ne.2 hE
    have hm0 : m = [] := by have := putS_bad (l := l) (b := b) (by rw [HM.out]; exact hE); rwa [HM.out] at this
    subst hm0
    clear hE hr3 M3
    simp only [List.length_nil]
    go_wp2_with fail
    refine (awake_any _).mono ?_
    rintro e w9 ⟨rfl, hb9⟩
    go_wp2
    go_ret
    exact ⟨rfl, (by repeat' (first | (with_reducible refine bset ?_ ?_) | (with_reducible exact Below.refl _ _) | (with_reducible assumption) | (with_reducible refine bdrewN ?_ _) | (with_reducible refine bdrew ?_) | (with_reducible refine balloc0 ?_) | (with_reducible refine balloc ?_ ?_) | (with_reducible apply btrans0; rotate_left; with_reducible assumption) | (with_reducible apply btrans; rotate_left; with_reducible assumption) | exact Below.refl _ _ | assumption | (apply btrans0; rotate_left; assumption) | (apply btrans; rotate_left; assumption) | (simp; done) | omega | (simp; omega)))⟩
  obtain ⟨p1, p2, p3, p4⟩ := putS_ok (l := l) (b := b) (by rw [HM.out]; exact hE)
  rw [HM.out] at p4
  injection p4 with p4 p5
  subst p4 p5
  obtain ⟨_, _, hs⟩ := chkAll_iff.1 p1
  have HS := Lib.hid hs
  have HC := Lib.hid p1
  have HCM := Lib.hid (chk_put p1 p2 p3)
  have HDM : Hid (∀ x ∈ putL l b, x.data.length ≤ maxLen) := Lib.hid (fun x hx => by rcases mem_put hx with hx | rfl; exact HD.out x hx; exact HDB.out)
  obtain ⟨hl8, _⟩ := chkAll_zero p1
  have hm8 : (putL l b).length ≤ 8 := by omega
  clear hE hs p1 p2 p3 hr3
  have cb := fun o => cellB B3 o
  go_wp2_with fail
  refine (find_any (putL l b) _ b.kind _ M3.out).mono ?_
  rw [find_put_self HS.out]
  rintro e w4 ⟨rfl, hb4⟩
  have z4 : w3.heap.size ≤ w4.heap.size := hb4.size
  have z4' : w.heap.size < w4.heap.size := by omega
  have hB4 : Below w.heap.size w w4 := (by repeat' (first | (with_reducible refine bset ?_ ?_) | (with_reducible exact Below.refl _ _) | (with_reducible assumption) | (with_reducible refine bdrewN ?_ _) | (with_reducible refine bdrew ?_) | (with_reducible refine balloc0 ?_) | (with_reducible refine balloc ?_ ?_) | (with_reducible apply btrans0; rotate_left; with_reducible assumption) | (with_reducible apply btrans; rotate_left; with_reducible assumption) | exact Below.refl _ _ | assumption | (apply btrans0; rotate_left; assumption) | (apply btrans; rotate_left; assumption) | (simp; done) | omega | (simp; omega)))
  have B4 := (hb4.block w.heap.size z3').trans B3
  have C4 := (hb4.block (w.heap.size + 1) z3).trans C3
  have M4 := Lib.hid (M3.out.below (M := w4.heap.size) hb4 (Nat.le_refl _) z4)
  clear hb4 B3 C3 M3 cb hB3
  have cb := fun o => cellB B4 o
  go_wp2_with fail
  have hBa : Below w.heap.size w (w4.alloc (.cells #[.int .i64 b.kind, .int .i64 b.flags, .string (B b.data)] 29)) := (by repeat' (first | (with_reducible refine bset ?_ ?_) | (with_reducible exact Below.refl _ _) | (with_reducible assumption) | (with_reducible refine bdrewN ?_ _) | (with_reducible refine bdrew ?_) | (with_reducible refine balloc0 ?_) | (with_reducible refine balloc ?_ ?_) | (with_reducible apply btrans0; rotate_left; with_reducible assumption) | (with_reducible apply btrans; rotate_left; with_reducible assumption) | exact Below.refl _ _ | assumption | (apply btrans0; rotate_left; assumption) | (apply btrans; rotate_left; assumption) | (simp; done) | omega | (simp; omega)))
  refine (find_any l _ b.kind _ (HR.out.below hBa (Nat.le_refl _) hBa.size)).mono ?_
  obtain ⟨⟨old, was⟩, hold⟩ : ∃ x, findS l b.kind = x := ⟨_, rfl⟩
  have HO := Lib.hid hold
  rw [hold]
  rintro e w5 ⟨rfl, hb5⟩
  simp only
  have z5 : w4.heap.size < w5.heap.size := by have := hb5.size; simp at this; omega
  have z5' : w.heap.size < w5.heap.size := by omega
  have hB5 : Below w.heap.size w w5 := (by repeat' (first | (with_reducible refine bset ?_ ?_) | (with_reducible exact Below.refl _ _) | (with_reducible assumption) | (with_reducible refine bdrewN ?_ _) | (with_reducible refine bdrew ?_) | (with_reducible refine balloc0 ?_) | (with_reducible refine balloc ?_ ?_) | (with_reducible apply btrans0; rotate_left; with_reducible assumption) | (with_reducible apply btrans; rotate_left; with_reducible assumption) | exact Below.refl _ _ | assumption | (apply btrans0; rotate_left; assumption) | (apply btrans; rotate_left; assumption) | (simp; done) | omega | (simp; omega)))
  have B5 := (hb5.block w.heap.size (by simp; omega)).trans ((Below.heap_alloc _ _ _ z4').trans B4)
  have C5 := (hb5.block (w.heap.size + 1) (by simp; omega)).trans ((Below.heap_alloc _ _ _ (by omega)).trans C4)
  have X5 : w5.heap[w4.heap.size]? = some (.cells #[.int .i64 b.kind, .int .i64 b.flags, .string (B b.data)] 29 (0, 0)) := (hb5.block _ (by simp)).trans heap_new
  have M5 := Lib.hid (M4.out.below (M := w5.heap.size) (C := w4.heap.size) ((balloc0 (Below.refl _ _) : Below w4.heap.size w4 (w4.alloc (.cells #[.int .i64 b.kind, .int .i64 b.flags, .string (B b.data)] 29))).trans (hb5.mono (by simp))) (Nat.le_refl _) (by omega))
  clear hb5 B4 C4 M4 cb hB4 hBa hold
  go_wp2_with fail
  have sV : (w5.alloc (.cells #[.int .i64 old.kind, .int .i64 old.flags, .string (B old.data)] 29)).heap.size = w5.heap.size + 1 := by simp
  have hBV : Below w.heap.size w (w5.alloc (.cells #[.int .i64 old.kind, .int .i64 old.flags, .string (B old.data)] 29)) := (by repeat' (first | (with_reducible refine bset ?_ ?_) | (with_reducible exact Below.refl _ _) | (with_reducible assumption) | (with_reducible refine bdrewN ?_ _) | (with_reducible refine bdrew ?_) | (with_reducible refine balloc0 ?_) | (with_reducible refine balloc ?_ ?_) | (with_reducible apply btrans0; rotate_left; with_reducible assumption) | (with_reducible apply btrans; rotate_left; with_reducible assumption) | exact Below.refl _ _ | assumption | (apply btrans0; rotate_left; assumption) | (apply btrans; rotate_left; assumption) | (simp; done) | omega | (simp; omega)))
  have BV := (Below.heap_alloc w5 (.cells #[.int .i64 old.kind, .int .i64 old.flags, .string (B old.data)] 29) _ z5').trans B5
  have CV := (Below.heap_alloc w5 (.cells #[.int .i64 old.kind, .int .i64 old.flags, .string (B old.data)] 29) _ (by omega)).trans C5
  have XV := (Below.heap_alloc w5 (.cells #[.int .i64 old.kind, .int .i64 old.flags, .string (B old.data)] 29) _ z5).trans X5
  have OV : (w5.alloc (.cells #[.int .i64 old.kind, .int .i64 old.flags, .string (B old.data)] 29)).heap[w5.heap.size]? = some (.cells #[.int .i64 old.kind, .int .i64 old.flags, .string (B old.data)] 29 (0, 0)) := heap_new
  have MV := M5.out.below (C := w5.heap.size) (M := w5.heap.size) (w' := w5.alloc (.cells #[.int .i64 old.kind, .int .i64 old.flags, .string (B old.data)] 29)) (balloc0 (Below.refl _ _)) (Nat.le_refl _) (Nat.le_refl _)
  clear B5 C5 X5 M5 hB5
  generalize w5.alloc (.cells _ _) = V at *
  have cB := fun o => cellB BV o
  have cX := fun o => cellB XV o
  have zV : w.heap.size < V.heap.size := by omega
  have zX : w4.heap.size < V.heap.size := by omega
  refine wp_region_plan (fun V => (∀ o, V.cell? ⟨w.heap.size, o, none⟩ = #[Value.int .i64 b.kind, Value.int .i64 b.flags, Value.string (B b.data)][o]?) ∧ (∀ o, V.cell? ⟨w4.heap.size, o, none⟩ = #[Value.int .i64 b.kind, Value.int .i64 b.flags, Value.string (B b.data)][o]?)) [0, 0, 0, 1, 1, 0, 0, 0, 0, 0, 1, 2, 0, 0, 1, 3, 3, 0, 0] [0, 1, 2, 3, 4, 5, 6, 7, 8, 9, 10, 12, 13, 14, 11, 15, 16, 17, 18] (by kernel_rfl) (by kernel_rfl) ?_ ?_
  case refine_1 => exact ⟨cB, cX⟩
  (iterate 14 (refine plan_held rfl (by decide) (by rfl) (fun w1 hS => by (try (have hS := hS rfl; obtain hS := hS; repeat (obtain ⟨_, hS⟩ := hS))); go_simp; rfl) ?_; simp only [Act.put, List.setIfInBounds_toArray, List.set_cons_zero, List.set_cons_succ]))
  (refine plan_keep rfl rfl (by rfl) (fun K hK => ?_); go_simp)
  refine (remove_any (putL l b) _ b.kind V.drew (MV.keep (w' := V.drew) (M := V.drew.heap.size) (fun _ _ _ => rfl) (by show w5.heap.size ≤ V.heap.size; omega)) (by omega)).mono ?_
  rintro e w6 ⟨v6, rfl, hr6, hb6, _⟩
  rw [show (putL l b).filter (fun x => x.kind != b.kind) = neK b.kind l from ne_put HS.out] at hr6
  have z6 : V.heap.size ≤ w6.heap.size := by have := hb6.size; simpa using this
  have kk : ∀ g o, g < V.heap.size → w6.cell? ⟨g, o, none⟩ = V.cell? ⟨g, o, none⟩ := fun g o hg => hb6.cell (p := ⟨g, o, none⟩) (by simpa using hg)
  (refine hK _ _ (by exact ⟨fun o => (kk _ _ zV).trans (cB o), fun o => (kk _ _ zX).trans (cX o)⟩) ?_; clear hK K; (try simp only [Act.put, List.setIfInBounds_toArray, List.set_cons_zero, List.set_cons_succ]))
  have hb6' : Below V.heap.size V w6 := ⟨hb6.os, hb6.tape, hb6.output, by simpa using hb6.size, hb6.block⟩
  have hB6 : Below w.heap.size w w6 := hBV.trans (hb6'.mono (by omega))
  (refine plan_late rfl rfl (by rfl) (fun K hK => ?_); go_simp)
  refine (remove_any l _ b.kind w6 (HR.out.below hB6 (Nat.le_refl _) hB6.size) (by omega)).mono ?_
  rintro e w7 ⟨v7, rfl, hr7, hb7, _⟩
  have z7 : w6.heap.size ≤ w7.heap.size := hb7.size
  have hB7 : Below w.heap.size w w7 := hB6.trans (hb7.mono (by omega))
  (refine hK _ _ ?_; clear hK K; (try simp only [Act.put, List.setIfInBounds_toArray, List.set_cons_zero, List.set_cons_succ]))
  (refine plan_late rfl rfl (by rfl) (fun K hK => ?_); go_simp)
  refine (same_any (neK b.kind l) _ _ w7 (hr6.below hb7 (Nat.le_refl _) z7) hr7).mono ?_
  rintro e w8 ⟨rfl, hb8⟩
  have z8 : w7.heap.size ≤ w8.heap.size := hb8.size
  have hbV : Below V.heap.size V w8 := hb6'.trans ((hb7.mono z6).trans (hb8.mono (by omega)))
  have hB8 : Below w.heap.size w w8 := hBV.trans (hbV.mono (by omega))
  (refine hK _ _ ?_; clear hK K; (try simp only [Act.put, List.setIfInBounds_toArray, List.set_cons_zero, List.set_cons_succ]))
  (iterate 2 (refine plan_held rfl (by decide) (by rfl) (fun w1 hS => by (try (have hS := hS rfl; obtain hS := hS; repeat (obtain ⟨_, hS⟩ := hS))); go_simp; rfl) ?_; simp only [Act.put, List.setIfInBounds_toArray, List.set_cons_zero, List.set_cons_succ]))
  refine plan_done ?_
  have B8 := (hbV.block w.heap.size zV).trans BV
  have C8 := (hbV.block (w.heap.size + 1) (by omega)).trans CV
  have O8 := (hbV.block w5.heap.size (by omega)).trans OV
  have M8 := Lib.hid (MV.below (C := V.heap.size) (M := w8.heap.size) hbV (by omega) (by omega))
  have z8' : w.heap.size < w8.heap.size := by omega
  have z8c : w.heap.size + 1 < w8.heap.size := by omega
  have z8o : w5.heap.size < w8.heap.size := by omega
  clear kk cB cX hr6 hr7 hb6 hb7 hb8 hb6' hB6 hB7 BV CV XV OV MV hbV hBV
  obtain ⟨_, _, e', huc, hum, _, hcb⟩ := id HR.out
  injection e' with e1 _ e2
  subst e1 e2
  have HCL := Lib.hid hcb
  unfold maxLen at hum
  clear hcb
  go_wp2
  go_loopw [83] (fun i wr => ∃ (k : Nat), k ≤ l.length ∧ i = .int .i64 k ∧ Below w8.heap.size w8 wr) (fun i _ => l.length - (intOf i).toNat)
  case atStart => exact ⟨0, Nat.zero_le _, rfl, Below.refl _ _⟩
  case round =>
    obtain ⟨k, hk, rfl, hB⟩ := hrel
    have HBw : Below w.heap.size w wr := hB8.trans (hB.mono (by omega))
    have zr : w8.heap.size ≤ wr.heap.size := hB.size
    have BR := (hB.block w.heap.size z8').trans B8
    have MR := Lib.hid (M8.out.below (M := wr.heap.size) hB (Nat.le_refl _) zr)
    by_cases hlt : k < l.length
    · obtain ⟨bb, o, rfl, hbn, hcell⟩ := HCL.out (by omega)
      obtain ⟨y, hy⟩ : ∃ y, l[k]? = some y := ⟨_, List.getElem?_eq_getElem hlt⟩
      obtain ⟨c1, c2, c3⟩ := (hcell k y hy).keep (fun o => HBw.cell (p := ⟨bb, o, none⟩) (by show bb < _; omega))
      have hbr : bb < wr.heap.size := by omega
      have k0 : (0 : Int) ≤ (k : Int) := by omega
      have k1 : (k : Int) < (l.length : Int) := by omega
      have hym := List.mem_of_getElem? hy
      have zw : w.heap.size < wr.heap.size := by omega
      clear hcell hy
      by_cases heq : y.kind = b.kind
      · have hf : Hid (findS (putL l b) y.kind = (b, true)) := Lib.hid (by rw [heq]; exact find_put_self HS.out)
        have hq : (y.kind == b.kind) = true := beq_iff_eq.2 heq
        clear heq
        go_wp2_with fail
        refine (find_any (putL l b) _ y.kind _ (MR.out.below (C := wr.heap.size) (balloc0 (Below.refl _ _)) (Nat.le_refl _) (by simp))).mono ?_
        rw [hf.out]
        rintro e w9 ⟨rfl, hb9⟩
        have Y9 : w9.heap[wr.heap.size]? = some (.cells #[.int .i64 y.kind, .int .i64 y.flags, .string (B y.data)] 29 (0, 0)) := (hb9.block _ (by simp)).trans heap_new
        have B9 := (hb9.block w.heap.size (by simp; omega)).trans ((Below.heap_alloc _ _ _ zw).trans BR)
        have z9 : wr.heap.size < w9.heap.size := by have := hb9.size; simp at this; omega
        have z9' : w.heap.size < w9.heap.size := by omega
        have hb8w : Below w8.heap.size w8 w9 := (balloc hB zr).trans (hb9.mono (by simp; omega))
        have cy := fun o => cellB Y9 o
        have cb := fun o => cellB B9 o
        clear hb9 c1 c2 c3 BR MR HBw hB
        go_wp2
        go_roundw
        case rel => exact ⟨k + 1, by omega, by go_num, balloc hb8w (by omega)⟩
        case measure => simp [intOf]; omega
      · have hf : Hid (findS (putL l b) y.kind = (y, true)) := Lib.hid (find_put_other HS.out hym heq)
        have hq : (y.kind == b.kind) = false := beq_eq_false_iff_ne.2 heq
        clear heq
        go_wp2_with fail
        refine (find_any (putL l b) _ y.kind _ (MR.out.below (C := wr.heap.size) (balloc0 (Below.refl _ _)) (Nat.le_refl _) (by simp))).mono ?_
        rw [hf.out]
        rintro e w9 ⟨rfl, hb9⟩
        have Y9 : w9.heap[wr.heap.size]? = some (.cells #[.int .i64 y.kind, .int .i64 y.flags, .string (B y.data)] 29 (0, 0)) := (hb9.block _ (by simp)).trans heap_new
        have B9 := (hb9.block w.heap.size (by simp; omega)).trans ((Below.heap_alloc _ _ _ zw).trans BR)
        have z9 : wr.heap.size < w9.heap.size := by have := hb9.size; simp at this; omega
        have z9' : w.heap.size < w9.heap.size := by omega
        have hb8w : Below w8.heap.size w8 w9 := (balloc hB zr).trans (hb9.mono (by simp; omega))
        have cy := fun o => cellB Y9 o
        have cb := fun o => cellB B9 o
        clear hb9 c1 c2 c3 BR MR HBw hB
        go_wp2
        all_goals
          go_roundw
          case rel => exact ⟨k + 1, by omega, by go_num, balloc hb8w (by omega)⟩
          case measure => simp [intOf]; omega
    · obtain rfl : k = l.length := by omega
      have CR := (hB.block (w.heap.size + 1) z8c).trans C8
      have OR := (hB.block w5.heap.size z8o).trans O8
      obtain ⟨W9, hW9⟩ : ∃ W9, W9 = wr := ⟨wr, rfl⟩
      subst hW9
      clear hB
      rcases find_cases l b.kind with ⟨hfc, hno⟩ | ⟨x, hxm, hxk, hfc⟩
      · rw [HO.out] at hfc
        injection hfc with hf1 hf2
        subst hf1 hf2
        have hne : Hid (neK b.kind (putL l b) = l) := Lib.hid (by rw [ne_put HS.out, ne_none hno])
        clear hno hlt hk
        have cb := fun o => cellB BR o
        have zw : w.heap.size < W9.heap.size := by omega
        go_wp2_with fail
        refine (remove_any (putL l b) _ b.kind _ MR.out (by omega)).mono ?_
        rintro e w10 ⟨v10, rfl, hr10, hb10, _⟩
        rw [show (putL l b).filter (fun x => x.kind != b.kind) = l from hne.out] at hr10
        have z10 : W9.heap.size ≤ w10.heap.size := hb10.size
        have hB10 : Below w.heap.size w w10 := HBw.trans (hb10.mono (by omega))
        have B10 := (hb10.block w.heap.size zw).trans BR
        have C10 := (hb10.block (w.heap.size + 1) (by omega)).trans CR
        have M10 := Lib.hid (MR.out.below (M := w10.heap.size) hb10 (Nat.le_refl _) z10)
        have H10 := Lib.hid hr10
        clear hb10 BR CR MR cb HBw hr10 OR
        go_wp2_with fail
        refine (same_any l _ _ _ H10.out (HR.out.below hB10 (Nat.le_refl _) hB10.size)).mono ?_
        rintro e w11 ⟨rfl, hb11⟩
        have z11 : w10.heap.size ≤ w11.heap.size := hb11.size
        have hB11 : Below w.heap.size w w11 := hB10.trans (hb11.mono (by omega))
        have B11 := (hb11.block w.heap.size (by omega)).trans B10
        have C11 := (hb11.block (w.heap.size + 1) (by omega)).trans C10
        have M11 := Lib.hid (M10.out.below (M := w11.heap.size) hb11 (Nat.le_refl _) z11)
        clear hb11 B10 C10 M10 H10 hB10
        have cb := fun o => cellB B11 o
        have cc := fun o => cellB C11 o
        have fc := fun o => frozenB C11 o
        have zz1 : w.heap.size < w11.heap.size := by omega
        have zz2 : w.heap.size + 1 < w11.heap.size := by omega
        go_wp2_with fail
        clear cb cc fc
        obtain ⟨T0, hT0⟩ : ∃ T0, w11.setCell ⟨w.heap.size + 1, 0, none⟩ (.int .i64 b.kind) = T0 := ⟨_, rfl⟩
        have sT0 : T0.heap.size = w11.heap.size := by rw [← hT0]; simp
        have hBT : Below w.heap.size w T0 := by rw [← hT0]; exact (by repeat' (first | (with_reducible refine bset ?_ ?_) | (with_reducible exact Below.refl _ _) | (with_reducible assumption) | (with_reducible refine bdrewN ?_ _) | (with_reducible refine bdrew ?_) | (with_reducible refine balloc0 ?_) | (with_reducible refine balloc ?_ ?_) | (with_reducible apply btrans0; rotate_left; with_reducible assumption) | (with_reducible apply btrans; rotate_left; with_reducible assumption) | exact Below.refl _ _ | assumption | (apply btrans0; rotate_left; assumption) | (apply btrans; rotate_left; assumption) | (simp; done) | omega | (simp; omega)))
        have CT : T0.heap[w.heap.size + 1]? = some (.cells #[.int .i64 b.kind, .int .i64 c.flags, .string (B c.data)] 29 (0, 0)) := by rw [← hT0]; simpa using setB C11 0 (.int .i64 b.kind)
        have MT := Lib.hid (M11.out.keepFrom (w' := T0) (M := T0.heap.size) HRF.out (fun g o h1 h2 => by rw [← hT0]; exact World.cell?_of_block (Below.heap_setCell _ _ _ _ (by show g ≠ w.heap.size + 1; omega))) (by omega))
        rw [hT0]
        clear hT0 B11 C11 M11 hB11
        obtain ⟨d, hd1, hd2⟩ : ∃ d : Blk, d = ⟨b.kind, c.flags, c.data⟩ ∧ d.data.length ≤ maxLen := ⟨_, rfl, HDC.out⟩
        have hdk : d.kind = b.kind := by rw [hd1]
        have hdv : (#[Value.int .i64 b.kind, Value.int .i64 c.flags, Value.string (B c.data)] : Array Value) = #[.int .i64 d.kind, .int .i64 d.flags, .string (B d.data)] := by rw [hd1]
        rw [hdv] at CT ⊢
        have HDD := Lib.hid hd2
        obtain ⟨⟨m2, E2⟩, hm2⟩ : ∃ x, putS l d = x := ⟨_, rfl⟩
        have HM2 := Lib.hid hm2
        have HTW : Hid (putS (putL l b) d = (m2, E2)) := Lib.hid (by rw [putS_twice (l := l) (b := b) (c := d) (by rw [HM.out]) hdk, hm2])
        clear hd1 hd2 hdk hdv hm2
        refine (put_any (putL l b) _ d _ MT.out HDM.out HDD.out).mono ?_
        rw [HTW.out]
        rintro e w12 ⟨u12, rfl, hr12, hb12, _⟩
        have z12 : T0.heap.size ≤ w12.heap.size := hb12.size
        have hB12 : Below w.heap.size w w12 := hBT.trans (hb12.mono (by omega))
        have C12 := (hb12.block (w.heap.size + 1) (by omega)).trans CT
        have M12 := Lib.hid (MT.out.below (M := w12.heap.size) hb12 (Nat.le_refl _) z12)
        have R12 := Lib.hid hr12
        obtain ⟨a12, c12, rfl, _⟩ := id hr12
        simp only at hr12 R12 ⊢
        clear hb12 hr12 CT MT hBT
        have cc := fun o => cellB C12 o
        go_wp2_with fail
        refine (put_any l _ d _ (HR.out.below hB12 (Nat.le_refl _) hB12.size) HD.out HDD.out).mono ?_
        rw [HM2.out]
        rintro e w13 ⟨u13, rfl, hr13, hb13, _⟩
        have z13 : w12.heap.size ≤ w13.heap.size := hb13.size
        have hB13 : Below w.heap.size w w13 := hB12.trans (hb13.mono (by omega))
        have M13 := Lib.hid (M12.out.below (M := w13.heap.size) hb13 (Nat.le_refl _) z13)
        have R13 := Lib.hid (R12.out.below (M := w13.heap.size) hb13 (Nat.le_refl _) z13)
        have S13 := Lib.hid hr13
        obtain ⟨a13, c13, rfl, _⟩ := id hr13
        simp only at hr13 S13 ⊢
        clear hb13 hr13 C12 M12 R12 hB12 cc
        go_wp2_with fail
        refine (encodeAll_any (putL l b) _ _ M13.out HDM.out).mono ?_
        rw [HCM.out]
        rintro e w14 ⟨rfl, hb14⟩
        have z14 : w13.heap.size ≤ w14.heap.size := hb14.size
        have hB14 : Below w.heap.size w w14 := hB13.trans (hb14.mono (by omega))
        have R14 := Lib.hid (R13.out.below (M := w14.heap.size) hb14 (Nat.le_refl _) z14)
        have S14 := Lib.hid (S13.out.below (M := w14.heap.size) hb14 (Nat.le_refl _) z14)
        clear hb14 M13 R13 S13 hB13
        go_wp2_with fail
        refine (same_any m2 _ _ _ R14.out S14.out).mono ?_
        rintro e w15 ⟨rfl, hb15⟩
        have hB15 : Below w.heap.size w w15 := hB14.trans (hb15.mono (by omega))
        clear hb15 hB14
        go_wp2_with fail
        refine (awake_any _).mono ?_
        rintro e w9 ⟨rfl, hb9⟩
        go_wp2
        go_ret
        exact ⟨rfl, (by repeat' (first | (with_reducible refine bset ?_ ?_) | (with_reducible exact Below.refl _ _) | (with_reducible assumption) | (with_reducible refine bdrewN ?_ _) | (with_reducible refine bdrew ?_) | (with_reducible refine balloc0 ?_) | (with_reducible refine balloc ?_ ?_) | (with_reducible apply btrans0; rotate_left; with_reducible assumption) | (with_reducible apply btrans; rotate_left; with_reducible assumption) | exact Below.refl _ _ | assumption | (apply btrans0; rotate_left; assumption) | (apply btrans; rotate_left; assumption) | (simp; done) | omega | (simp; omega)))⟩
      · rw [HO.out] at hfc
        injection hfc with hf1 hf2
        subst hf1 hf2
        have hpb : Hid (putS (putL l b) old = (l, 0)) := Lib.hid (putS_back (by rw [HM.out]) hxm hxk)
        have hod : old.data.length ≤ maxLen := HD.out _ hxm
        have HOD := Lib.hid hod
        clear hxm hxk hlt hk hod
        have co := fun o => cellB OR o
        have zo : w5.heap.size < W9.heap.size := by omega
        go_wp2_with fail
        refine (put_any (putL l b) _ old _ MR.out HDM.out HOD.out).mono ?_
        rw [hpb.out]
        rintro e w10 ⟨v10, rfl, hr10, hb10, _⟩
        have z10 : W9.heap.size ≤ w10.heap.size := hb10.size
        have hB10 : Below w.heap.size w w10 := HBw.trans (hb10.mono (by omega))
        have B10 := (hb10.block w.heap.size (by omega)).trans BR
        have C10 := (hb10.block (w.heap.size + 1) (by omega)).trans CR
        have M10 := Lib.hid (MR.out.below (M := w10.heap.size) hb10 (Nat.le_refl _) z10)
        have H10 := Lib.hid hr10
        obtain ⟨a10, c10, rfl, _⟩ := id hr10
        simp only at hr10 H10 ⊢
        clear hb10 BR CR MR co HBw hr10 OR
        go_wp2_with fail
        refine (same_any l _ _ _ H10.out (HR.out.below hB10 (Nat.le_refl _) hB10.size)).mono ?_
        rintro e w11 ⟨rfl, hb11⟩
        have z11 : w10.heap.size ≤ w11.heap.size := hb11.size
        have hB11 : Below w.heap.size w w11 := hB10.trans (hb11.mono (by omega))
        have B11 := (hb11.block w.heap.size (by omega)).trans B10
        have C11 := (hb11.block (w.heap.size + 1) (by omega)).trans C10
        have M11 := Lib.hid (M10.out.below (M := w11.heap.size) hb11 (Nat.le_refl _) z11)
        clear hb11 B10 C10 M10 H10 hB10
        have cb := fun o => cellB B11 o
        have cc := fun o => cellB C11 o
        have fc := fun o => frozenB C11 o
        have zz1 : w.heap.size < w11.heap.size := by omega
        have zz2 : w.heap.size + 1 < w11.heap.size := by omega
        go_wp2_with fail
        clear cb cc fc
        obtain ⟨T0, hT0⟩ : ∃ T0, w11.setCell ⟨w.heap.size + 1, 0, none⟩ (.int .i64 b.kind) = T0 := ⟨_, rfl⟩
        have sT0 : T0.heap.size = w11.heap.size := by rw [← hT0]; simp
        have hBT : Below w.heap.size w T0 := by rw [← hT0]; exact (by repeat' (first | (with_reducible refine bset ?_ ?_) | (with_reducible exact Below.refl _ _) | (with_reducible assumption) | (with_reducible refine bdrewN ?_ _) | (with_reducible refine bdrew ?_) | (with_reducible refine balloc0 ?_) | (with_reducible refine balloc ?_ ?_) | (with_reducible apply btrans0; rotate_left; with_reducible assumption) | (with_reducible apply btrans; rotate_left; with_reducible assumption) | exact Below.refl _ _ | assumption | (apply btrans0; rotate_left; assumption) | (apply btrans; rotate_left; assumption) | (simp; done) | omega | (simp; omega)))
        have CT : T0.heap[w.heap.size + 1]? = some (.cells #[.int .i64 b.kind, .int .i64 c.flags, .string (B c.data)] 29 (0, 0)) := by rw [← hT0]; simpa using setB C11 0 (.int .i64 b.kind)
        have MT := Lib.hid (M11.out.keepFrom (w' := T0) (M := T0.heap.size) HRF.out (fun g o h1 h2 => by rw [← hT0]; exact World.cell?_of_block (Below.heap_setCell _ _ _ _ (by show g ≠ w.heap.size + 1; omega))) (by omega))
        rw [hT0]
        clear hT0 B11 C11 M11 hB11
        obtain ⟨d, hd1, hd2⟩ : ∃ d : Blk, d = ⟨b.kind, c.flags, c.data⟩ ∧ d.data.length ≤ maxLen := ⟨_, rfl, HDC.out⟩
        have hdk : d.kind = b.kind := by rw [hd1]
        have hdv : (#[Value.int .i64 b.kind, Value.int .i64 c.flags, Value.string (B c.data)] : Array Value) = #[.int .i64 d.kind, .int .i64 d.flags, .string (B d.data)] := by rw [hd1]
        rw [hdv] at CT ⊢
        have HDD := Lib.hid hd2
        obtain ⟨⟨m2, E2⟩, hm2⟩ : ∃ x, putS l d = x := ⟨_, rfl⟩
        have HM2 := Lib.hid hm2
        have HTW : Hid (putS (putL l b) d = (m2, E2)) := Lib.hid (by rw [putS_twice (l := l) (b := b) (c := d) (by rw [HM.out]) hdk, hm2])
        clear hd1 hd2 hdk hdv hm2
        refine (put_any (putL l b) _ d _ MT.out HDM.out HDD.out).mono ?_
        rw [HTW.out]
        rintro e w12 ⟨u12, rfl, hr12, hb12, _⟩
        have z12 : T0.heap.size ≤ w12.heap.size := hb12.size
        have hB12 : Below w.heap.size w w12 := hBT.trans (hb12.mono (by omega))
        have C12 := (hb12.block (w.heap.size + 1) (by omega)).trans CT
        have M12 := Lib.hid (MT.out.below (M := w12.heap.size) hb12 (Nat.le_refl _) z12)
        have R12 := Lib.hid hr12
        obtain ⟨a12, c12, rfl, _⟩ := id hr12
        simp only at hr12 R12 ⊢
        clear hb12 hr12 CT MT hBT
        have cc := fun o => cellB C12 o
        go_wp2_with fail
        refine (put_any l _ d _ (HR.out.below hB12 (Nat.le_refl _) hB12.size) HD.out HDD.out).mono ?_
        rw [HM2.out]
        rintro e w13 ⟨u13, rfl, hr13, hb13, _⟩
        have z13 : w12.heap.size ≤ w13.heap.size := hb13.size
        have hB13 : Below w.heap.size w w13 := hB12.trans (hb13.mono (by omega))
        have M13 := Lib.hid (M12.out.below (M := w13.heap.size) hb13 (Nat.le_refl _) z13)
        have R13 := Lib.hid (R12.out.below (M := w13.heap.size) hb13 (Nat.le_refl _) z13)
        have S13 := Lib.hid hr13
        obtain ⟨a13, c13, rfl, _⟩ := id hr13
        simp only at hr13 S13 ⊢
        clear hb13 hr13 C12 M12 R12 hB12 cc
        go_wp2_with fail
        refine (encodeAll_any (putL l b) _ _ M13.out HDM.out).mono ?_
        rw [HCM.out]
        rintro e w14 ⟨rfl, hb14⟩
        have z14 : w13.heap.size ≤ w14.heap.size := hb14.size
        have hB14 : Below w.heap.size w w14 := hB13.trans (hb14.mono (by omega))
        have R14 := Lib.hid (R13.out.below (M := w14.heap.size) hb14 (Nat.le_refl _) z14)
        have S14 := Lib.hid (S13.out.below (M := w14.heap.size) hb14 (Nat.le_refl _) z14)
        clear hb14 M13 R13 S13 hB13
        go_wp2_with fail
        refine (same_any m2 _ _ _ R14.out S14.out).mono ?_
        rintro e w15 ⟨rfl, hb15⟩
        have hB15 : Below w.heap.size w w15 := hB14.trans (hb15.mono (by omega))
        clear hb15 hB14
        go_wp2_with fail
        refine (awake_any _).mono ?_
        rintro e w9 ⟨rfl, hb9⟩
        go_wp2
        go_ret
        exact ⟨rfl, (by repeat' (first | (with_reducible refine bset ?_ ?_) | (with_reducible exact Below.refl _ _) | (with_reducible assumption) | (with_reducible refine bdrewN ?_ _) | (with_reducible refine bdrew ?_) | (with_reducible refine balloc0 ?_) | (with_reducible refine balloc ?_ ?_) | (with_reducible apply btrans0; rotate_left; with_reducible assumption) | (with_reducible apply btrans; rotate_left; with_reducible assumption) | exact Below.refl _ _ | assumption | (apply btrans0; rotate_left; assumption) | (apply btrans; rotate_left; assumption) | (simp; done) | omega | (simp; omega)))⟩

set_option maxRecDepth 100000 in
theorem lifted (os : Os) (started : os.Started) (H : Type) (enc : TypeId × Value → H) :
    ReturnsInHanded {} Try.checked os 5 .any (Rows.blockPutsSpec.pre6 enc Try.prog Try.f5 Rows.blockPutsRow.domain false) (Rows.blockPutsSpec.post enc Try.prog Try.f5 false true false false) := by
  refine returnsInHanded_of_change (C := Try.checked) own started (by kernel_rfl) Try.func5
    (ChangeSpec.witness6 (enc := enc) (C := Try.checked) false ⟨#[], #[.slice none 0 0, .agg #[.int .i64 0, .int .i64 0, .string (B [])], .agg #[.int .i64 0, .int .i64 0, .string (B [])]], []⟩ 8 (by kernel_rfl) (by kernel_rfl) (by kernel_rfl) (by kernel_rfl)) ?_
  intro W base args ds gs before hval0 hW hcnd _
  have hval : ∀ (j : Nat) t v, Try.f5.params[j]? = some t → args[j]? = some v → Value.okWide Try.prog W .any base t v := hval0
  have hW' := hW
  obtain ⟨p, q, hA0, hV, rfl, hfz, hnd⟩ := hW
  have hA : DataW.TrodAll enc Try.prog W 0 (fun _ => true) true Try.f5.params.toList args.toList ds p := hA0
  rw [Try.params5] at hA hval
  obtain ⟨v0, vs0, d0, ds0, p0, q0, hargs, rfl, rfl, h0, r0⟩ := trodAll_cons hA
  obtain ⟨v1, vs1, d1, ds1, p1, q1, rfl, rfl, rfl, h1, r1⟩ := trodAll_cons r0
  obtain ⟨v2, vs2, d2, ds2, p2, q2, rfl, rfl, rfl, h2, r2⟩ := trodAll_cons r1
  obtain ⟨rfl, rfl, rfl⟩ := trodAll_nil r2
  obtain rfl : args = #[v0, v1, v2] := by cases args; simp_all
  obtain ⟨x0, hr0, hd0⟩ := open_blks_arg (hval 0 22 v0 rfl rfl) h0
  obtain ⟨x1, rfl, hd1⟩ := open_blk_arg (hval 1 29 v1 rfl rfl) h1
  obtain ⟨x2, rfl, hd2⟩ := open_blk_arg (hval 2 29 v2 rfl rfl) h2
  refine (walk x0 v0 x1 x2 W hr0 hd0 hd1 hd2).mono fun e W' ⟨he, hB⟩ => ?_
  subst he
  refine ⟨_, rfl, law_post (by kernel_rfl) (by kernel_rfl) rfl Try.underlying4 rfl ?_ hW' hB⟩
  intro es hes
  match es, hes with
  | [_, _, _], _ => rfl

theorem proved : Rows.BlockPutsSaid :=
  OpenClaim.holds_of_wide 5 Try.f5 rfl rfl rfl rfl rfl rfl rfl ⟨rfl, rfl, rfl, rfl, rfl⟩ rfl rfl rfl rfl rfl (by kernel_rfl) Try.func5 (by kernel_rfl)
    (of_decide_eq_true (by kernel_rfl)) (by unfold Func.isWrapper; first | (rw [if_pos (by decide +kernel)]; kernel_rfl) | (rw [if_neg (by decide +kernel)]; exact ⟨rfl, rfl⟩))
    (fun os started H enc _ => lifted os started H enc)
#print axioms proved
end Go.Proofs.Ytdnbegcebloodaa.blockPuts
