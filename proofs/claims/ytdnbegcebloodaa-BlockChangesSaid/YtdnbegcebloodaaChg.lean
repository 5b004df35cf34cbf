/-
  Proved: mailboatlaw12.BlockChanges returns true for every input, and leaves its arguments as they were. No condition.
-/
import Derived.Test.YtdnbegcebloodaaRows
import Derived.Test.YtdnbegcebloodaaGj
import Derived.Test.YtdnbegcebloodaaEg
import Derived.Test.YtdnbegcebloodaaEq
import Derived.Test.YtdnbegcebloodaaR
import Derived.Test.YtdnbegcebloodaaL
set_option linter.unusedVariables false
set_option linter.unusedSimpArgs false
namespace Go.Proofs.Ytdnbegcebloodaa.blockChanges
open Go Go.ChangeShapes Go.WideShapes Go.ChangeAt Go.RowKit Go.Joins Go.Proofs.Ytdnbegcebloodaa
attribute [local go_sem] B_getElem B_size B_app B_extract B_get B_toList
attribute [local go_sem ↓] eqBlk

theorem own : ownKnob Try.prog.godebug = none := by kernel_rfl

set_option maxRecDepth 100000 in
set_option maxHeartbeats 3000000 in
theorem eqBlkE (k f : Int) (d : List UInt8) (w : World) : Sem.run Try.prog (Go.binOp .eql 29 (.agg #[.int .i64 k, .int .i64 f, .string (B d)]) (.agg #[.int .i64 k, .int .i64 f, .string (B d)])) w = .ok (.bool true) w := by
  go_simp
attribute [local go_sem ↓] eqBlkE
set_option maxHeartbeats 1000000 in
theorem great_len (l : List Blk) (u : Value) (w : World) (h : RBlks w w.heap.size u l) (hl : 10 < l.length) :
    Calls Try.prog 42 #[u] w fun e w' => e = .returned (.bool true) ∧ Below w.heap.size w w' := by
  obtain ⟨a, c, rfl, h1, h2, _⟩ := h
  unfold maxLen at h2
  have hlen : l.length ≤ 9223372036854775807 := by omega
  have hl' : (10 : Int) < (l.length : Int) := by omega
  go_enter Try.func42, Try.ntmps42
  go_wp2
  go_ret
  exact ⟨rfl, (by repeat' (first | (with_reducible refine bset ?_ ?_) | (with_reducible exact Below.refl _ _) | (with_reducible assumption) | (with_reducible refine bdrewN ?_ _) | (with_reducible refine bdrew ?_) | (with_reducible refine balloc0 ?_) | (with_reducible refine balloc ?_ ?_) | (with_reducible apply btrans0; rotate_left; with_reducible assumption) | (with_reducible apply btrans; rotate_left; with_reducible assumption) | exact Below.refl _ _ | assumption | (apply btrans0; rotate_left; assumption) | (apply btrans; rotate_left; assumption) | (simp; done) | omega | (simp; omega)))⟩
set_option maxHeartbeats 1000000 in
theorem lawGreat_len (l : List Blk) (u : Value) (s : List UInt8) (w : World) (h : RBlks w w.heap.size u l) (hl : 10 < l.length) :
    Calls Try.prog 11 #[u, .string (B s)] w fun e w' => e = .returned (.bool true) ∧ Below w.heap.size w w' := by
  have HR := Lib.hid h
  clear h
  go_enter Try.func11, Try.ntmps11
  go_wp2_with fail
  refine (great_len l u _ HR.out hl).mono ?_
  rintro e w1 ⟨rfl, hb1⟩
  go_wp2
  go_ret
  exact ⟨rfl, (by repeat' (first | (with_reducible refine bset ?_ ?_) | (with_reducible exact Below.refl _ _) | (with_reducible assumption) | (with_reducible refine bdrewN ?_ _) | (with_reducible refine bdrew ?_) | (with_reducible refine balloc0 ?_) | (with_reducible refine balloc ?_ ?_) | (with_reducible apply btrans0; rotate_left; with_reducible assumption) | (with_reducible apply btrans; rotate_left; with_reducible assumption) | exact Below.refl _ _ | assumption | (apply btrans0; rotate_left; assumption) | (apply btrans; rotate_left; assumption) | (simp; done) | omega | (simp; omega)))⟩
set_option maxRecDepth 100000 in
set_option maxHeartbeats 3000000 in
theorem walk (l : List Blk) (u : Value) (b : Blk) (kind : Int) (known : List Int) (v : Value) (w : World) (hr : RBlks w w.heap.size u l) (hd : ∀ x ∈ l, x.data.length ≤ maxLen) (hdb : b.data.length ≤ maxLen) (hk : RInts w w.heap.size v known) :
    Calls Try.prog 4 #[u, .agg #[.int .i64 b.kind, .int .i64 b.flags, .string (B b.data)], .int .i64 kind, v] w (Says w) := by
  obtain ⟨ua, uc, rfl, _⟩ := id hr
  obtain ⟨va, vc, rfl, hvc, hvm, _⟩ := id hk
  unfold maxLen at hvm
  have hkl : known.length ≤ 9223372036854775807 := by omega
  have HR := Lib.hid hr
  have HK := Lib.hid hk
  have HD := Lib.hid hd
  have HDB := Lib.hid hdb
  clear hr hk hd hdb
  by_cases hl10 : 10 < l.length
  · go_enter Try.func4, Try.ntmps4
    go_wp2_with fail
    refine (lawGreat_len l _ [] _ (HR.out.below (C := w.heap.size) (by repeat' (first | (with_reducible refine bset ?_ ?_) | (with_reducible exact Below.refl _ _) | (with_reducible assumption) | (with_reducible refine bdrewN ?_ _) | (with_reducible refine bdrew ?_) | (with_reducible refine balloc0 ?_) | (with_reducible refine balloc ?_ ?_) | (with_reducible apply btrans0; rotate_left; with_reducible assumption) | (with_reducible apply btrans; rotate_left; with_reducible assumption) | exact Below.refl _ _ | assumption | (apply btrans0; rotate_left; assumption) | (apply btrans; rotate_left; assumption) | (simp; done) | omega | (simp; omega))) (Nat.le_refl _) (by simp)) hl10).mono ?_
    rintro e w1 ⟨rfl, hb1⟩
    go_wp2_with fail
    refine (awake_any _).mono ?_
    rintro e w9 ⟨rfl, hb9⟩
    go_wp2
    go_ret
    exact ⟨rfl, (by repeat' (first | (with_reducible refine bset ?_ ?_) | (with_reducible exact Below.refl _ _) | (with_reducible assumption) | (with_reducible refine bdrewN ?_ _) | (with_reducible refine bdrew ?_) | (with_reducible refine balloc0 ?_) | (with_reducible refine balloc ?_ ?_) | (with_reducible apply btrans0; rotate_left; with_reducible assumption) | (with_reducible apply btrans; rotate_left; with_reducible assumption) | exact Below.refl _ _ | assumption | (apply btrans0; rotate_left; assumption) | (apply btrans; rotate_left; assumption) | (simp; done) | omega | (simp; omega)))⟩
  go_enter Try.func4, Try.ntmps4
  go_wp2_with fail
  refine (lawGreat_any l _ [] _ (HR.out.below (C := w.heap.size) (by repeat' (first | (with_reducible refine bset ?_ ?_) | (with_reducible exact Below.refl _ _) | (with_reducible assumption) | (with_reducible refine bdrewN ?_ _) | (with_reducible refine bdrew ?_) | (with_reducible refine balloc0 ?_) | (with_reducible refine balloc ?_ ?_) | (with_reducible apply btrans0; rotate_left; with_reducible assumption) | (with_reducible apply btrans; rotate_left; with_reducible assumption) | exact Below.refl _ _ | assumption | (apply btrans0; rotate_left; assumption) | (apply btrans; rotate_left; assumption) | (simp; done) | omega | (simp; omega))) (Nat.le_refl _) (by simp)) HD.out (by simp [maxLen])).mono ?_
  rintro e w1 ⟨g, rfl, hb1⟩
  have z1 : w.heap.size < w1.heap.size := by have := hb1.size; simp at this; omega
  have hB1 : Below w.heap.size w w1 := (by repeat' (first | (with_reducible refine bset ?_ ?_) | (with_reducible exact Below.refl _ _) | (with_reducible assumption) | (with_reducible refine bdrewN ?_ _) | (with_reducible refine bdrew ?_) | (with_reducible refine balloc0 ?_) | (with_reducible refine balloc ?_ ?_) | (with_reducible apply btrans0; rotate_left; with_reducible assumption) | (with_reducible apply btrans; rotate_left; with_reducible assumption) | exact Below.refl _ _ | assumption | (apply btrans0; rotate_left; assumption) | (apply btrans; rotate_left; assumption) | (simp; done) | omega | (simp; omega)))
  have B1 : w1.heap[w.heap.size]? = some (.cells #[.int .i64 b.kind, .int .i64 b.flags, .string (B b.data)] 29 (0, 0)) := (hb1.block _ (by simp)).trans heap_new
  clear hb1
  cases g
  case true =>
    go_wp2_with fail
    refine (awake_any _).mono ?_
    rintro e w9 ⟨rfl, hb9⟩
    go_wp2
    go_ret
    exact ⟨rfl, (by repeat' (first | (with_reducible refine bset ?_ ?_) | (with_reducible exact Below.refl _ _) | (with_reducible assumption) | (with_reducible refine bdrewN ?_ _) | (with_reducible refine bdrew ?_) | (with_reducible refine balloc0 ?_) | (with_reducible refine balloc ?_ ?_) | (with_reducible apply btrans0; rotate_left; with_reducible assumption) | (with_reducible apply btrans; rotate_left; with_reducible assumption) | exact Below.refl _ _ | assumption | (apply btrans0; rotate_left; assumption) | (apply btrans; rotate_left; assumption) | (simp; done) | omega | (simp; omega)))⟩
  have cb := fun o => cellB B1 o
  go_wp2_with fail
  refine (lawGreat_any [b] _ [] _ (RBlks.lit1 (x := b) (t := 29) (by exact heap_new) (by simp)) (fun x hx => by simp at hx; subst hx; exact HDB.out) (by simp [maxLen])).mono ?_
  rintro e w2 ⟨g, rfl, hb2⟩
  have z2 : w.heap.size < w2.heap.size := by have := hb2.size; simp at this; omega
  have hB2 : Below w.heap.size w w2 := (by repeat' (first | (with_reducible refine bset ?_ ?_) | (with_reducible exact Below.refl _ _) | (with_reducible assumption) | (with_reducible refine bdrewN ?_ _) | (with_reducible refine bdrew ?_) | (with_reducible refine balloc0 ?_) | (with_reducible refine balloc ?_ ?_) | (with_reducible apply btrans0; rotate_left; with_reducible assumption) | (with_reducible apply btrans; rotate_left; with_reducible assumption) | exact Below.refl _ _ | assumption | (apply btrans0; rotate_left; assumption) | (apply btrans; rotate_left; assumption) | (simp; done) | omega | (simp; omega)))
  have B2 := (hb2.block w.heap.size (by simp; omega)).trans ((Below.heap_alloc _ _ _ z1).trans B1)
  clear hb2 B1 cb hB1
  cases g
  case true =>
    go_wp2_with fail
    refine (awake_any _).mono ?_
    rintro e w9 ⟨rfl, hb9⟩
    go_wp2
    go_ret
    exact ⟨rfl, (by repeat' (first | (with_reducible refine bset ?_ ?_) | (with_reducible exact Below.refl _ _) | (with_reducible assumption) | (with_reducible refine bdrewN ?_ _) | (with_reducible refine bdrew ?_) | (with_reducible refine balloc0 ?_) | (with_reducible refine balloc ?_ ?_) | (with_reducible apply btrans0; rotate_left; with_reducible assumption) | (with_reducible apply btrans; rotate_left; with_reducible assumption) | exact Below.refl _ _ | assumption | (apply btrans0; rotate_left; assumption) | (apply btrans; rotate_left; assumption) | (simp; done) | omega | (simp; omega)))⟩
  by_cases h20 : 20 < known.length
  · have h20' : (20 : Int) < (known.length : Int) := by omega
    go_wp2_with fail
    refine (awake_any _).mono ?_
    rintro e w9 ⟨rfl, hb9⟩
    go_wp2
    go_ret
    exact ⟨rfl, (by repeat' (first | (with_reducible refine bset ?_ ?_) | (with_reducible exact Below.refl _ _) | (with_reducible assumption) | (with_reducible refine bdrewN ?_ _) | (with_reducible refine bdrew ?_) | (with_reducible refine balloc0 ?_) | (with_reducible refine balloc ?_ ?_) | (with_reducible apply btrans0; rotate_left; with_reducible assumption) | (with_reducible apply btrans; rotate_left; with_reducible assumption) | exact Below.refl _ _ | assumption | (apply btrans0; rotate_left; assumption) | (apply btrans; rotate_left; assumption) | (simp; done) | omega | (simp; omega)))⟩
  have h20' : ¬ (20 : Int) < (known.length : Int) := by omega
  have h20a : decide ((20 : Int) < (known.length : Int)) = false := decide_eq_false h20'
  have h20b : decide (20 < known.length) = false := decide_eq_false h20
  obtain ⟨⟨x, xb⟩, hx⟩ : ∃ p, findS l kind = p := ⟨_, rfl⟩
  have HX := Lib.hid hx
  obtain ⟨⟨pl, pe⟩, hp⟩ : ∃ p, putS l b = p := ⟨_, rfl⟩
  have HP := Lib.hid hp
  obtain ⟨⟨rl, rr, re⟩, hrr⟩ : ∃ p, prS l known = p := ⟨_, rfl⟩
  have HRR := Lib.hid hrr
  clear hx hp hrr
  go_wp2_with fail
  refine (find_any l _ kind _ (HR.out.below hB2 (Nat.le_refl _) hB2.size)).mono ?_
  rw [HX.out]
  rintro e w3 ⟨rfl, hb3⟩
  simp only
  have z3 : w2.heap.size ≤ w3.heap.size := hb3.size
  have z3' : w.heap.size < w3.heap.size := by omega
  have hB3 : Below w.heap.size w w3 := (by repeat' (first | (with_reducible refine bset ?_ ?_) | (with_reducible exact Below.refl _ _) | (with_reducible assumption) | (with_reducible refine bdrewN ?_ _) | (with_reducible refine bdrew ?_) | (with_reducible refine balloc0 ?_) | (with_reducible refine balloc ?_ ?_) | (with_reducible apply btrans0; rotate_left; with_reducible assumption) | (with_reducible apply btrans; rotate_left; with_reducible assumption) | exact Below.refl _ _ | assumption | (apply btrans0; rotate_left; assumption) | (apply btrans; rotate_left; assumption) | (simp; done) | omega | (simp; omega)))
  have B3 := (hb3.block w.heap.size z2).trans B2
  clear hb3 B2 hB2
  go_wp2_with fail
  have hBa : Below w.heap.size w (w3.alloc (.cells #[.int .i64 x.kind, .int .i64 x.flags, .string (B x.data)] 29)) := (by repeat' (first | (with_reducible refine bset ?_ ?_) | (with_reducible exact Below.refl _ _) | (with_reducible assumption) | (with_reducible refine bdrewN ?_ _) | (with_reducible refine bdrew ?_) | (with_reducible refine balloc0 ?_) | (with_reducible refine balloc ?_ ?_) | (with_reducible apply btrans0; rotate_left; with_reducible assumption) | (with_reducible apply btrans; rotate_left; with_reducible assumption) | exact Below.refl _ _ | assumption | (apply btrans0; rotate_left; assumption) | (apply btrans; rotate_left; assumption) | (simp; done) | omega | (simp; omega)))
  refine (rfind_any l _ kind _ (HR.out.below hBa (Nat.le_refl _) hBa.size)).mono ?_
  rw [HX.out]
  rintro e w4 ⟨rfl, hb4⟩
  simp only
  have z4 : w3.heap.size < w4.heap.size := by have := hb4.size; simp at this; omega
  have z4' : w.heap.size < w4.heap.size := by omega
  have hB4 : Below w.heap.size w w4 := (by repeat' (first | (with_reducible refine bset ?_ ?_) | (with_reducible exact Below.refl _ _) | (with_reducible assumption) | (with_reducible refine bdrewN ?_ _) | (with_reducible refine bdrew ?_) | (with_reducible refine balloc0 ?_) | (with_reducible refine balloc ?_ ?_) | (with_reducible apply btrans0; rotate_left; with_reducible assumption) | (with_reducible apply btrans; rotate_left; with_reducible assumption) | exact Below.refl _ _ | assumption | (apply btrans0; rotate_left; assumption) | (apply btrans; rotate_left; assumption) | (simp; done) | omega | (simp; omega)))
  have B4 := (hb4.block w.heap.size (by simp; omega)).trans ((Below.heap_alloc _ _ _ z3').trans B3)
  have X4 : w4.heap[w3.heap.size]? = some (.cells #[.int .i64 x.kind, .int .i64 x.flags, .string (B x.data)] 29 (0, 0)) := (hb4.block _ (by simp)).trans heap_new
  clear hb4 B3 hB3 hBa
  have cb := fun o => cellB B4 o
  go_wp2_with fail
  have hBa : Below w.heap.size w (w4.alloc (.cells #[.int .i64 x.kind, .int .i64 x.flags, .string (B x.data)] 29)) := (by repeat' (first | (with_reducible refine bset ?_ ?_) | (with_reducible exact Below.refl _ _) | (with_reducible assumption) | (with_reducible refine bdrewN ?_ _) | (with_reducible refine bdrew ?_) | (with_reducible refine balloc0 ?_) | (with_reducible refine balloc ?_ ?_) | (with_reducible apply btrans0; rotate_left; with_reducible assumption) | (with_reducible apply btrans; rotate_left; with_reducible assumption) | exact Below.refl _ _ | assumption | (apply btrans0; rotate_left; assumption) | (apply btrans; rotate_left; assumption) | (simp; done) | omega | (simp; omega)))
  refine (put_any l _ b _ (HR.out.below hBa (Nat.le_refl _) hBa.size) HD.out HDB.out).mono ?_
  rw [HP.out]
  rintro e w5 ⟨u5, rfl, hr5, hb5, _⟩
  have z5 : w4.heap.size < w5.heap.size := by have := hb5.size; simp at this; omega
  have z5' : w.heap.size < w5.heap.size := by omega
  have hB5 : Below w.heap.size w w5 := (by repeat' (first | (with_reducible refine bset ?_ ?_) | (with_reducible exact Below.refl _ _) | (with_reducible assumption) | (with_reducible refine bdrewN ?_ _) | (with_reducible refine bdrew ?_) | (with_reducible refine balloc0 ?_) | (with_reducible refine balloc ?_ ?_) | (with_reducible apply btrans0; rotate_left; with_reducible assumption) | (with_reducible apply btrans; rotate_left; with_reducible assumption) | exact Below.refl _ _ | assumption | (apply btrans0; rotate_left; assumption) | (apply btrans; rotate_left; assumption) | (simp; done) | omega | (simp; omega)))
  have B5 := (hb5.block w.heap.size (by simp; omega)).trans ((Below.heap_alloc _ _ _ z4').trans B4)
  have X5 := (hb5.block w3.heap.size (by simp; omega)).trans ((Below.heap_alloc _ _ _ z4).trans X4)
  have Y5 : w5.heap[w4.heap.size]? = some (.cells #[.int .i64 x.kind, .int .i64 x.flags, .string (B x.data)] 29 (0, 0)) := (hb5.block _ (by simp)).trans heap_new
  have P5 := Lib.hid hr5
  obtain ⟨a5, c5, rfl, _⟩ := id hr5
  simp only at hr5 P5 ⊢
  clear hb5 hr5 B4 X4 hB4 hBa cb
  have cb := fun o => cellB B5 o
  go_wp2_with fail
  refine (rput_any l _ b _ (HR.out.below hB5 (Nat.le_refl _) hB5.size) HD.out HDB.out).mono ?_
  rw [HP.out]
  rintro e w6 ⟨u6, rfl, hr6, hb6⟩
  have z6 : w5.heap.size ≤ w6.heap.size := hb6.size
  have hB6 : Below w.heap.size w w6 := (by repeat' (first | (with_reducible refine bset ?_ ?_) | (with_reducible exact Below.refl _ _) | (with_reducible assumption) | (with_reducible refine bdrewN ?_ _) | (with_reducible refine bdrew ?_) | (with_reducible refine balloc0 ?_) | (with_reducible refine balloc ?_ ?_) | (with_reducible apply btrans0; rotate_left; with_reducible assumption) | (with_reducible apply btrans; rotate_left; with_reducible assumption) | exact Below.refl _ _ | assumption | (apply btrans0; rotate_left; assumption) | (apply btrans; rotate_left; assumption) | (simp; done) | omega | (simp; omega)))
  have X6 := (hb6.block w3.heap.size (by omega)).trans X5
  have Y6 := (hb6.block w4.heap.size (by omega)).trans Y5
  have P6 := Lib.hid (P5.out.below (M := w6.heap.size) hb6 (Nat.le_refl _) z6)
  have Q6 := Lib.hid hr6
  obtain ⟨a6, c6, rfl, _⟩ := id hr6
  simp only at hr6 Q6 ⊢
  clear hb6 hr6 B5 X5 Y5 P5 hB5 cb
  go_wp2_with fail
  refine (process_any l known _ _ _ (HR.out.below hB6 (Nat.le_refl _) hB6.size) (HK.out.below hB6 (Nat.le_refl _) hB6.size) HD.out).mono ?_
  rw [HRR.out]
  rintro e w7 ⟨u7, rfl, hr7, hb7⟩
  have z7 : w6.heap.size ≤ w7.heap.size := hb7.size
  have hB7 : Below w.heap.size w w7 := (by repeat' (first | (with_reducible refine bset ?_ ?_) | (with_reducible exact Below.refl _ _) | (with_reducible assumption) | (with_reducible refine bdrewN ?_ _) | (with_reducible refine bdrew ?_) | (with_reducible refine balloc0 ?_) | (with_reducible refine balloc ?_ ?_) | (with_reducible apply btrans0; rotate_left; with_reducible assumption) | (with_reducible apply btrans; rotate_left; with_reducible assumption) | exact Below.refl _ _ | assumption | (apply btrans0; rotate_left; assumption) | (apply btrans; rotate_left; assumption) | (simp; done) | omega | (simp; omega)))
  have X7 := (hb7.block w3.heap.size (by omega)).trans X6
  have Y7 := (hb7.block w4.heap.size (by omega)).trans Y6
  have P7 := Lib.hid (P6.out.below (M := w7.heap.size) hb7 (Nat.le_refl _) z7)
  have Q7 := Lib.hid (Q6.out.below (M := w7.heap.size) hb7 (Nat.le_refl _) z7)
  have R7 := Lib.hid hr7
  obtain ⟨a7, c7, rfl, _⟩ := id hr7
  simp only at hr7 R7 ⊢
  clear hb7 hr7 X6 Y6 P6 Q6 hB6
  go_wp2_with fail
  refine (rprocess_any l known _ _ _ (HR.out.below hB7 (Nat.le_refl _) hB7.size) (HK.out.below hB7 (Nat.le_refl _) hB7.size) HD.out).mono ?_
  rw [HRR.out]
  rintro e w8 ⟨u8, rfl, hr8, hb8⟩
  have z8 : w7.heap.size ≤ w8.heap.size := hb8.size
  have hB8 : Below w.heap.size w w8 := (by repeat' (first | (with_reducible refine bset ?_ ?_) | (with_reducible exact Below.refl _ _) | (with_reducible assumption) | (with_reducible refine bdrewN ?_ _) | (with_reducible refine bdrew ?_) | (with_reducible refine balloc0 ?_) | (with_reducible refine balloc ?_ ?_) | (with_reducible apply btrans0; rotate_left; with_reducible assumption) | (with_reducible apply btrans; rotate_left; with_reducible assumption) | exact Below.refl _ _ | assumption | (apply btrans0; rotate_left; assumption) | (apply btrans; rotate_left; assumption) | (simp; done) | omega | (simp; omega)))
  have X8 := (hb8.block w3.heap.size (by omega)).trans X7
  have Y8 := (hb8.block w4.heap.size (by omega)).trans Y7
  have P8 := Lib.hid (P7.out.below (M := w8.heap.size) hb8 (Nat.le_refl _) z8)
  have Q8 := Lib.hid (Q7.out.below (M := w8.heap.size) hb8 (Nat.le_refl _) z8)
  have R8 := Lib.hid (R7.out.below (M := w8.heap.size) hb8 (Nat.le_refl _) z8)
  have S8 := Lib.hid hr8
  obtain ⟨a8, c8, rfl, _⟩ := id hr8
  simp only at hr8 S8 ⊢
  clear hb8 hr8 X7 Y7 P7 Q7 R7 hB7
  have cx := fun o => cellB X8 o
  have cy := fun o => cellB Y8 o
  go_wp2_with fail
  refine (same_any pl _ _ _ P8.out Q8.out).mono ?_
  rintro e w9 ⟨rfl, hb9⟩
  have z9 : w8.heap.size ≤ w9.heap.size := hb9.size
  have hB9 : Below w.heap.size w w9 := (by repeat' (first | (with_reducible refine bset ?_ ?_) | (with_reducible exact Below.refl _ _) | (with_reducible assumption) | (with_reducible refine bdrewN ?_ _) | (with_reducible refine bdrew ?_) | (with_reducible refine balloc0 ?_) | (with_reducible refine balloc ?_ ?_) | (with_reducible apply btrans0; rotate_left; with_reducible assumption) | (with_reducible apply btrans; rotate_left; with_reducible assumption) | exact Below.refl _ _ | assumption | (apply btrans0; rotate_left; assumption) | (apply btrans; rotate_left; assumption) | (simp; done) | omega | (simp; omega)))
  have R9 := Lib.hid (R8.out.below (M := w9.heap.size) hb9 (Nat.le_refl _) z9)
  have S9 := Lib.hid (S8.out.below (M := w9.heap.size) hb9 (Nat.le_refl _) z9)
  clear hb9 X8 Y8 P8 Q8 R8 S8 hB8 cx cy
  go_wp2_with fail
  refine (remove_any l _ kind _ (HR.out.below hB9 (Nat.le_refl _) hB9.size) (by omega)).mono ?_
  rintro e w10 ⟨u10, rfl, hr10, hb10, _⟩
  have z10 : w9.heap.size ≤ w10.heap.size := hb10.size
  have hB10 : Below w.heap.size w w10 := (by repeat' (first | (with_reducible refine bset ?_ ?_) | (with_reducible exact Below.refl _ _) | (with_reducible assumption) | (with_reducible refine bdrewN ?_ _) | (with_reducible refine bdrew ?_) | (with_reducible refine balloc0 ?_) | (with_reducible refine balloc ?_ ?_) | (with_reducible apply btrans0; rotate_left; with_reducible assumption) | (with_reducible apply btrans; rotate_left; with_reducible assumption) | exact Below.refl _ _ | assumption | (apply btrans0; rotate_left; assumption) | (apply btrans; rotate_left; assumption) | (simp; done) | omega | (simp; omega)))
  have R10 := Lib.hid (R9.out.below (M := w10.heap.size) hb10 (Nat.le_refl _) z10)
  have S10 := Lib.hid (S9.out.below (M := w10.heap.size) hb10 (Nat.le_refl _) z10)
  have T10 := Lib.hid hr10
  clear hb10 hr10 R9 S9 hB9
  go_wp2_with fail
  refine (rremove_any l _ kind _ (HR.out.below hB10 (Nat.le_refl _) hB10.size) (by omega)).mono ?_
  rintro e w11 ⟨u11, rfl, hr11, hb11, _⟩
  have z11 : w10.heap.size ≤ w11.heap.size := hb11.size
  have hB11 : Below w.heap.size w w11 := (by repeat' (first | (with_reducible refine bset ?_ ?_) | (with_reducible exact Below.refl _ _) | (with_reducible assumption) | (with_reducible refine bdrewN ?_ _) | (with_reducible refine bdrew ?_) | (with_reducible refine balloc0 ?_) | (with_reducible refine balloc ?_ ?_) | (with_reducible apply btrans0; rotate_left; with_reducible assumption) | (with_reducible apply btrans; rotate_left; with_reducible assumption) | exact Below.refl _ _ | assumption | (apply btrans0; rotate_left; assumption) | (apply btrans; rotate_left; assumption) | (simp; done) | omega | (simp; omega)))
  have R11 := Lib.hid (R10.out.below (M := w11.heap.size) hb11 (Nat.le_refl _) z11)
  have S11 := Lib.hid (S10.out.below (M := w11.heap.size) hb11 (Nat.le_refl _) z11)
  have T11 := Lib.hid (T10.out.below (M := w11.heap.size) hb11 (Nat.le_refl _) z11)
  have U11 := Lib.hid hr11
  clear hb11 hr11 R10 S10 T10 hB10
  go_wp2_with fail
  refine (same_any (l.filter (fun x => x.kind != kind)) _ _ _ T11.out U11.out).mono ?_
  rintro e w12 ⟨rfl, hb12⟩
  have z12 : w11.heap.size ≤ w12.heap.size := hb12.size
  have hB12 : Below w.heap.size w w12 := (by repeat' (first | (with_reducible refine bset ?_ ?_) | (with_reducible exact Below.refl _ _) | (with_reducible assumption) | (with_reducible refine bdrewN ?_ _) | (with_reducible refine bdrew ?_) | (with_reducible refine balloc0 ?_) | (with_reducible refine balloc ?_ ?_) | (with_reducible apply btrans0; rotate_left; with_reducible assumption) | (with_reducible apply btrans; rotate_left; with_reducible assumption) | exact Below.refl _ _ | assumption | (apply btrans0; rotate_left; assumption) | (apply btrans; rotate_left; assumption) | (simp; done) | omega | (simp; omega)))
  have R12 := Lib.hid (R11.out.below (M := w12.heap.size) hb12 (Nat.le_refl _) z12)
  have S12 := Lib.hid (S11.out.below (M := w12.heap.size) hb12 (Nat.le_refl _) z12)
  clear hb12 R11 S11 T11 U11 hB11
  go_wp2_with fail
  refine (same_any rl _ _ _ R12.out S12.out).mono ?_
  rintro e w13 ⟨rfl, hb13⟩
  have hB13 : Below w.heap.size w w13 := (by repeat' (first | (with_reducible refine bset ?_ ?_) | (with_reducible exact Below.refl _ _) | (with_reducible assumption) | (with_reducible refine bdrewN ?_ _) | (with_reducible refine bdrew ?_) | (with_reducible refine balloc0 ?_) | (with_reducible refine balloc ?_ ?_) | (with_reducible apply btrans0; rotate_left; with_reducible assumption) | (with_reducible apply btrans; rotate_left; with_reducible assumption) | exact Below.refl _ _ | assumption | (apply btrans0; rotate_left; assumption) | (apply btrans; rotate_left; assumption) | (simp; done) | omega | (simp; omega)))
  clear hb13 R12 S12 hB12
  go_wp2_with fail
  refine (awake_any _).mono ?_
  rintro e w9 ⟨rfl, hb9⟩
  go_wp2
  go_ret
  exact ⟨rfl, (by repeat' (first | (with_reducible refine bset ?_ ?_) | (with_reducible exact Below.refl _ _) | (with_reducible assumption) | (with_reducible refine bdrewN ?_ _) | (with_reducible refine bdrew ?_) | (with_reducible refine balloc0 ?_) | (with_reducible refine balloc ?_ ?_) | (with_reducible apply btrans0; rotate_left; with_reducible assumption) | (with_reducible apply btrans; rotate_left; with_reducible assumption) | exact Below.refl _ _ | assumption | (apply btrans0; rotate_left; assumption) | (apply btrans; rotate_left; assumption) | (simp; done) | omega | (simp; omega)))⟩

set_option maxRecDepth 100000 in
theorem lifted (os : Os) (started : os.Started) (H : Type) (enc : TypeId × Value → H) :
    ReturnsInHanded {} Try.checked os 4 .any (Rows.blockChangesSpec.pre6 enc Try.prog Try.f4 Rows.blockChangesRow.domain false) (Rows.blockChangesSpec.post enc Try.prog Try.f4 false true false false) := by
  refine returnsInHanded_of_change (C := Try.checked) own started (by kernel_rfl) Try.func4
    (ChangeSpec.witness6 (enc := enc) (C := Try.checked) false ⟨#[], #[.slice none 0 0, .agg #[.int .i64 0, .int .i64 0, .string (B [])], .int .i64 0, .slice none 0 0], []⟩ 8 (by kernel_rfl) (by kernel_rfl) (by kernel_rfl) (by kernel_rfl)) ?_
  intro W base args ds gs before hval0 hW hcnd _
  have hval : ∀ (j : Nat) t v, Try.f4.params[j]? = some t → args[j]? = some v → Value.okWide Try.prog W .any base t v := hval0
  have hW' := hW
  obtain ⟨p, q, hA0, hV, rfl, hfz, hnd⟩ := hW
  have hA : DataW.TrodAll enc Try.prog W 0 (fun _ => true) true Try.f4.params.toList args.toList ds p := hA0
  rw [Try.params4] at hA hval
  obtain ⟨v0, vs0, d0, ds0, p0, q0, hargs, rfl, rfl, h0, r0⟩ := trodAll_cons hA
  obtain ⟨v1, vs1, d1, ds1, p1, q1, rfl, rfl, rfl, h1, r1⟩ := trodAll_cons r0
  obtain ⟨v2, vs2, d2, ds2, p2, q2, rfl, rfl, rfl, h2, r2⟩ := trodAll_cons r1
  obtain ⟨v3, vs3, d3, ds3, p3, q3, rfl, rfl, rfl, h3, r3⟩ := trodAll_cons r2
  obtain ⟨rfl, rfl, rfl⟩ := trodAll_nil r3
  obtain rfl : args = #[v0, v1, v2, v3] := by cases args; simp_all
  obtain ⟨x0, hr0, hd0⟩ := open_blks_arg (hval 0 22 v0 rfl rfl) h0
  obtain ⟨x1, rfl, hd1⟩ := open_blk_arg (hval 1 29 v1 rfl rfl) h1
  obtain ⟨x2, rfl, _, _, wx2⟩ := open_int Try.underlying3 (hval 2 3 v2 rfl rfl) h2
  obtain ⟨x3, hr3⟩ := open_ints_arg (hval 3 23 v3 rfl rfl) h3
  refine (walk x0 v0 x1 x2 x3 v3 W hr0 hd0 hd1 hr3).mono fun e W' ⟨he, hB⟩ => ?_
  subst he
  refine ⟨_, rfl, law_post (by kernel_rfl) (by kernel_rfl) rfl Try.underlying4 rfl ?_ hW' hB⟩
  intro es hes
  match es, hes with
  | [_, _, _, _], _ => rfl

theorem proved : Rows.BlockChangesSaid :=
  OpenClaim.holds_of_wide 4 Try.f4 rfl rfl rfl rfl rfl rfl rfl ⟨rfl, rfl, rfl, rfl, rfl⟩ rfl rfl rfl rfl rfl (by kernel_rfl) Try.func4 (by kernel_rfl)
    (of_decide_eq_true (by kernel_rfl)) (by unfold Func.isWrapper; first | (rw [if_pos (by decide +kernel)]; kernel_rfl) | (rw [if_neg (by decide +kernel)]; exact ⟨rfl, rfl⟩))
    (fun os started H enc _ => lifted os started H enc)
#print axioms proved
end Go.Proofs.Ytdnbegcebloodaa.blockChanges
