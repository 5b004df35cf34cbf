/- Layer 4 (rational): Print, of the program and of the reference. -/
import Derived.Test.YtfkdhcfedjbkfaaDoorZa
import Derived.Test.YtfkdhcfedjbkfaaDoorKc
import Derived.Laws.Rows
set_option linter.unusedVariables false
set_option linter.unusedSimpArgs false
namespace Go.Proofs.YtfkdhcfedjbkfaaDoor
open Go Go.RowKit
attribute [local go_sem] B_getElem B_size B_app B_extract B_get B_toList

theorem cellB {w : World} {g : Nat} {t : TypeId} {cs : Array Value} (h : w.heap[g]? = some (.cells cs t (0, 0))) (o : Nat) : w.cell? ⟨g, o, none⟩ = cs[o]? := cell_of_row w g o cs t (0, 0) h
theorem frozenB {w : World} {g : Nat} {t : TypeId} {cs : Array Value} (h : w.heap[g]? = some (.cells cs t (0, 0))) (o : Nat) : w.frozen? ⟨g, o, none⟩ = false := by simp [World.frozen?, h]
theorem heap_new {W : World} {o : Obj} : (W.alloc o).heap[W.heap.size]? = some o := heap_alloc_new W o
theorem heap_new' {W : World} {o : Obj} {k : Nat} (hk : k = W.heap.size) : (W.alloc o).heap[k]? = some o := by subst hk; exact heap_alloc_new W o
def Tabs (w : World) : Prop := Lib.TabIs Tryd.prog w "internal/strconv.uint64pow10" .u64 Lib.pow10Tab
theorem gP : ∃ g, Tryd.prog.globalNamed "internal/strconv.uint64pow10" = some g := by
  have h : (Tryd.prog.globalNamed "internal/strconv.uint64pow10").isSome = true := by kernel_rfl
  exact Option.isSome_iff_exists.1 h
theorem Tabs.stays {w w' : World} (h : Tabs w) (hb : Below w.heap.size w w') : Tabs w' := by
  obtain ⟨g, hg⟩ := gP
  exact Go.Joins.tab_stays hg h hb (Nat.le_refl _)
theorem itoa_at {n : Int} {w0 w : World} (h0 : -1000000000000000000 ≤ n) (h1 : n ≤ 1000000000000000000) (hT : Tabs w0) (hb : Below w0.heap.size w0 w) :
    Calls Tryd.prog 15 #[.int .i64 n] w fun e w' => e = .returned (.string (B (Lib.itoa n))) ∧ Below w.heap.size w w' := by
  refine (Tryd.strconv_Itoa n (by omega) (by omega) w (hT.stays hb)).mono ?_
  rintro e w' ⟨rfl, k, os, rfl⟩
  exact ⟨rfl, Lib.below_grow _ _ (Nat.le_refl _) k os⟩
theorem itoa_le21 {n : Int} (h0 : -1000000000000000000 ≤ n) (h1 : n ≤ 1000000000000000000) : (Lib.itoa n).length ≤ 21 := Lib.itoa_length_le n (by omega) (by omega)
def PrtPost (n d : Int) (w : World) (e : Ending) (w' : World) : Prop := e = .returned (.tuple #[.string (B (prtS (n, d)).1), .int .i64 (prtS (n, d)).2]) ∧ Below w.heap.size w w'
theorem B_lit_l1 (a : UInt8) (l : List UInt8) : (⟨#[a]⟩ : ByteArray) ++ B l = B (a :: l) := B_app [a] l
theorem B_lit_r1 (a : UInt8) (l : List UInt8) : B l ++ (⟨#[a]⟩ : ByteArray) = B (l ++ [a]) := B_app l [a]
attribute [local go_sem] B_lit_l1 B_lit_r1
set_option maxRecDepth 100000 in
set_option maxHeartbeats 1000000 in
theorem print_any (n d : Int) (w : World) (n1 : -9223372036854775808 ≤ n) (n2 : n ≤ 9223372036854775807) (d1 : -9223372036854775808 ≤ d) (d2 : d ≤ 9223372036854775807) (hT : Tabs w) :
    Calls Tryd.prog 6 #[.agg #[.int .i64 n, .int .i64 d]] w (PrtPost n d w) := by
  unfold PrtPost
  obtain ⟨E, hE⟩ : ∃ q, chk (n, d) = q := ⟨_, rfl⟩
  by_cases z : E = 0
  case neg =>
    have z' : (E != 0) = true := by rw [bne_iff_ne]; exact z
    rw [prtS_bad (by rw [hE]; exact z)]
    have HE := Lib.hid hE
    clear hE z
    go_enter Tryd.func6, Tryd.ntmps6
    go_wp2_with fail
    refine (check_any n d E _ n1 n2 d1 d2 HE.out).mono ?_
    rintro e w1 ⟨rfl, hb1⟩
    go_wp2
    go_ret2
    exact ⟨rfl, (by repeat' (first | (with_reducible refine bset ?_ ?_) | (with_reducible exact Below.refl _ _) | (with_reducible assumption) | (with_reducible refine bdrewN ?_ _) | (with_reducible refine bdrew ?_) | (with_reducible refine balloc0 ?_) | (with_reducible refine balloc ?_ ?_) | (with_reducible apply btrans0; rotate_left; with_reducible assumption) | (with_reducible apply btrans; rotate_left; with_reducible assumption) | exact Below.refl _ _ | assumption | (apply btrans0; rotate_left; assumption) | (apply btrans; rotate_left; assumption) | (simp; done) | omega | (simp; omega)))⟩
  subst z
  rw [prtS_ok hE]
  obtain ⟨b1, b2, b3, b4, -⟩ := chk_ok hE
  have HE := Lib.hid hE
  obtain ⟨N, hN⟩ : ∃ q, Lib.itoa n = q := ⟨_, rfl⟩
  obtain ⟨D, hD⟩ : ∃ q, Lib.itoa d = q := ⟨_, rfl⟩
  have l1 : N.length ≤ 21 := by rw [← hN]; exact itoa_le21 (by omega) (by omega)
  have l2 : D.length ≤ 21 := by rw [← hD]; exact itoa_le21 (by omega) (by omega)
  have m1 : ¬ 9223372036854775807 < 1 + D.length := by omega
  have m2 : ¬ 9223372036854775807 < N.length + (D.length + 1) := by omega
  have m3 : ¬ 9223372036854775807 < D.length + 1 := by omega
  have m4 : ¬ 9223372036854775807 < N.length + (1 + D.length) := by omega
  have HN := Lib.hid hN
  have HD := Lib.hid hD
  unfold txt
  simp only
  rw [hN, hD]
  clear hE hN hD
  by_cases k : d = 1
  · subst k
    rw [if_pos rfl, List.append_nil]
    go_enter Tryd.func6, Tryd.ntmps6
    go_wp2_with fail
    refine (check_any n 1 0 _ n1 n2 d1 d2 HE.out).mono ?_
    rintro e w1 ⟨rfl, hb1⟩
    have hB1 : Below w.heap.size w w1 := (by repeat' (first | (with_reducible refine bset ?_ ?_) | (with_reducible exact Below.refl _ _) | (with_reducible assumption) | (with_reducible refine bdrewN ?_ _) | (with_reducible refine bdrew ?_) | (with_reducible refine balloc0 ?_) | (with_reducible refine balloc ?_ ?_) | (with_reducible apply btrans0; rotate_left; with_reducible assumption) | (with_reducible apply btrans; rotate_left; with_reducible assumption) | exact Below.refl _ _ | assumption | (apply btrans0; rotate_left; assumption) | (apply btrans; rotate_left; assumption) | (simp; done) | omega | (simp; omega)))
    obtain ⟨k1, f1⟩ := bcell hb1
    have z1 : w.heap.size < w1.heap.size := by have := hb1.size; simp at this; omega
    go_wp2_with fail
    refine (itoa_at (n := n) (by omega) (by omega) hT (by repeat' (first | (with_reducible refine bset ?_ ?_) | (with_reducible exact Below.refl _ _) | (with_reducible assumption) | (with_reducible refine bdrewN ?_ _) | (with_reducible refine bdrew ?_) | (with_reducible refine balloc0 ?_) | (with_reducible refine balloc ?_ ?_) | (with_reducible apply btrans0; rotate_left; with_reducible assumption) | (with_reducible apply btrans; rotate_left; with_reducible assumption) | exact Below.refl _ _ | assumption | (apply btrans0; rotate_left; assumption) | (apply btrans; rotate_left; assumption) | (simp; done) | omega | (simp; omega)))).mono ?_
    rw [HN.out]
    rintro e w2 ⟨rfl, hb2⟩
    have hB2 : Below w.heap.size w w2 := (by repeat' (first | (with_reducible refine bset ?_ ?_) | (with_reducible exact Below.refl _ _) | (with_reducible assumption) | (with_reducible refine bdrewN ?_ _) | (with_reducible refine bdrew ?_) | (with_reducible refine balloc0 ?_) | (with_reducible refine balloc ?_ ?_) | (with_reducible apply btrans0; rotate_left; with_reducible assumption) | (with_reducible apply btrans; rotate_left; with_reducible assumption) | exact Below.refl _ _ | assumption | (apply btrans0; rotate_left; assumption) | (apply btrans; rotate_left; assumption) | (simp; done) | omega | (simp; omega)))
    obtain ⟨k2, f2⟩ := bcell hb2
    go_wp2
    go_ret2
    exact ⟨rfl, (by repeat' (first | (with_reducible refine bset ?_ ?_) | (with_reducible exact Below.refl _ _) | (with_reducible assumption) | (with_reducible refine bdrewN ?_ _) | (with_reducible refine bdrew ?_) | (with_reducible refine balloc0 ?_) | (with_reducible refine balloc ?_ ?_) | (with_reducible apply btrans0; rotate_left; with_reducible assumption) | (with_reducible apply btrans; rotate_left; with_reducible assumption) | exact Below.refl _ _ | assumption | (apply btrans0; rotate_left; assumption) | (apply btrans; rotate_left; assumption) | (simp; done) | omega | (simp; omega)))⟩
  · have k' : (d != 1) = true := by rw [bne_iff_ne]; exact k
    rw [if_neg k]
    clear k
    go_enter Tryd.func6, Tryd.ntmps6
    go_wp2_with fail
    refine (check_any n d 0 _ n1 n2 d1 d2 HE.out).mono ?_
    rintro e w1 ⟨rfl, hb1⟩
    have hB1 : Below w.heap.size w w1 := (by repeat' (first | (with_reducible refine bset ?_ ?_) | (with_reducible exact Below.refl _ _) | (with_reducible assumption) | (with_reducible refine bdrewN ?_ _) | (with_reducible refine bdrew ?_) | (with_reducible refine balloc0 ?_) | (with_reducible refine balloc ?_ ?_) | (with_reducible apply btrans0; rotate_left; with_reducible assumption) | (with_reducible apply btrans; rotate_left; with_reducible assumption) | exact Below.refl _ _ | assumption | (apply btrans0; rotate_left; assumption) | (apply btrans; rotate_left; assumption) | (simp; done) | omega | (simp; omega)))
    obtain ⟨k1, f1⟩ := bcell hb1
    have z1 : w.heap.size < w1.heap.size := by have := hb1.size; simp at this; omega
    go_wp2_with fail
    refine (itoa_at (n := n) (by omega) (by omega) hT (by repeat' (first | (with_reducible refine bset ?_ ?_) | (with_reducible exact Below.refl _ _) | (with_reducible assumption) | (with_reducible refine bdrewN ?_ _) | (with_reducible refine bdrew ?_) | (with_reducible refine balloc0 ?_) | (with_reducible refine balloc ?_ ?_) | (with_reducible apply btrans0; rotate_left; with_reducible assumption) | (with_reducible apply btrans; rotate_left; with_reducible assumption) | exact Below.refl _ _ | assumption | (apply btrans0; rotate_left; assumption) | (apply btrans; rotate_left; assumption) | (simp; done) | omega | (simp; omega)))).mono ?_
    rw [HN.out]
    rintro e w2 ⟨rfl, hb2⟩
    have hB2 : Below w.heap.size w w2 := (by repeat' (first | (with_reducible refine bset ?_ ?_) | (with_reducible exact Below.refl _ _) | (with_reducible assumption) | (with_reducible refine bdrewN ?_ _) | (with_reducible refine bdrew ?_) | (with_reducible refine balloc0 ?_) | (with_reducible refine balloc ?_ ?_) | (with_reducible apply btrans0; rotate_left; with_reducible assumption) | (with_reducible apply btrans; rotate_left; with_reducible assumption) | exact Below.refl _ _ | assumption | (apply btrans0; rotate_left; assumption) | (apply btrans; rotate_left; assumption) | (simp; done) | omega | (simp; omega)))
    obtain ⟨k2, f2⟩ := bcell hb2
    have z2 : w.heap.size < w2.heap.size := by have := hb2.size; omega
    go_wp2_with fail
    refine (itoa_at (n := d) (by omega) (by omega) hT (by repeat' (first | (with_reducible refine bset ?_ ?_) | (with_reducible exact Below.refl _ _) | (with_reducible assumption) | (with_reducible refine bdrewN ?_ _) | (with_reducible refine bdrew ?_) | (with_reducible refine balloc0 ?_) | (with_reducible refine balloc ?_ ?_) | (with_reducible apply btrans0; rotate_left; with_reducible assumption) | (with_reducible apply btrans; rotate_left; with_reducible assumption) | exact Below.refl _ _ | assumption | (apply btrans0; rotate_left; assumption) | (apply btrans; rotate_left; assumption) | (simp; done) | omega | (simp; omega)))).mono ?_
    rw [HD.out]
    rintro e w3 ⟨rfl, hb3⟩
    have hB3 : Below w.heap.size w w3 := (by repeat' (first | (with_reducible refine bset ?_ ?_) | (with_reducible exact Below.refl _ _) | (with_reducible assumption) | (with_reducible refine bdrewN ?_ _) | (with_reducible refine bdrew ?_) | (with_reducible refine balloc0 ?_) | (with_reducible refine balloc ?_ ?_) | (with_reducible apply btrans0; rotate_left; with_reducible assumption) | (with_reducible apply btrans; rotate_left; with_reducible assumption) | exact Below.refl _ _ | assumption | (apply btrans0; rotate_left; assumption) | (apply btrans; rotate_left; assumption) | (simp; done) | omega | (simp; omega)))
    go_wp2
    go_ret2
    exact ⟨rfl, (by repeat' (first | (with_reducible refine bset ?_ ?_) | (with_reducible exact Below.refl _ _) | (with_reducible assumption) | (with_reducible refine bdrewN ?_ _) | (with_reducible refine bdrew ?_) | (with_reducible refine balloc0 ?_) | (with_reducible refine balloc ?_ ?_) | (with_reducible apply btrans0; rotate_left; with_reducible assumption) | (with_reducible apply btrans; rotate_left; with_reducible assumption) | exact Below.refl _ _ | assumption | (apply btrans0; rotate_left; assumption) | (apply btrans; rotate_left; assumption) | (simp; done) | omega | (simp; omega)))⟩
theorem conv1 (n : Int) (w : World) : (convert 47 9 (.slice (some ⟨w.heap.size, 0, none⟩) 1 1)).run Tryd.prog (w.alloc (.cells #[.int .u8 n] 5)) = .ok (.string (B [UInt8.ofNat n.toNat])) (w.alloc (.cells #[.int .u8 n] 5)) := by
  refine run_convert_bytes_arg _ 47 5 Tryd.underlying47 Tryd.underlying5 w.heap.size 0 1 1 [n] rfl (fun i hi => ?_) 9 Tryd.underlying9
  obtain rfl : i = 0 := by omega
  go_simp
attribute [local go_sem ↓] conv1
set_option maxRecDepth 100000 in
set_option maxHeartbeats 2000000 in
theorem rdec_any (n : Int) (w : World) (h0 : -1000000000000000000 ≤ n) (h1 : n ≤ 1000000000000000000) :
    Calls Tryd.prog 17 #[.int .i64 n] w fun e w' => e = .returned (.string (B (Lib.itoa n))) ∧ Below w.heap.size w w' := by
  obtain ⟨k, hk⟩ : ∃ k : Nat, n.natAbs = k := ⟨_, rfl⟩
  obtain ⟨R, hR⟩ : ∃ q, Lib.decDigits k = q := ⟨_, rfl⟩
  obtain ⟨T, hT⟩ : ∃ q, Lib.itoa n = q := ⟨_, rfl⟩
  have HT : Hid (T = if n < 0 then 45 :: R else R) := Lib.hid (by rw [← hT, itoa_abs, hk, hR])
  have HRR := Lib.hid hR
  have HK := Lib.hid hk
  rw [hT]
  have hk1 : k ≤ 1000000000000000000 := by omega
  clear hR hk hT
  go_enter Tryd.func17, Tryd.ntmps17
  go_wp2_with fail
  refine (rsize_any n _ (by omega) (by omega)).mono ?_
  rw [HK.out]
  rintro e w1 ⟨rfl, rfl⟩
  go_wp2
  go_loopw [3, 4] (fun d m wr => ∃ (f M : Nat) (D : List UInt8), d = .string (B D) ∧ m = .int .u64 (M : Int) ∧ M < 10 ^ f ∧ M ≤ 1000000000000000000 ∧ D.length + f ≤ 19 ∧ Hid ((D = [] → M = k) ∧ (D ≠ [] → (if M = 0 then [] else Lib.decDigits M) ++ D = R)) ∧ Below w.heap.size w wr) (fun d m _ => (intOf m).toNat + (match d with | .string s => if s.size = 0 then 1 else 0 | _ => 0))
  case atStart => exact ⟨19, k, [], rfl, rfl, by omega, hk1, by simp, Lib.hid ⟨fun _ => rfl, fun h => absurd rfl h⟩, (by repeat' (first | (with_reducible refine bset ?_ ?_) | (with_reducible exact Below.refl _ _) | (with_reducible assumption) | (with_reducible refine bdrewN ?_ _) | (with_reducible refine bdrew ?_) | (with_reducible refine balloc0 ?_) | (with_reducible refine balloc ?_ ?_) | (with_reducible apply btrans0; rotate_left; with_reducible assumption) | (with_reducible apply btrans; rotate_left; with_reducible assumption) | exact Below.refl _ _ | assumption | (apply btrans0; rotate_left; assumption) | (apply btrans; rotate_left; assumption) | (simp; done) | omega | (simp; omega)))⟩
  case round =>
    obtain ⟨f, M, D, rfl, rfl, hm, hm2, hl, HI, hB⟩ := hrel
    have hcat : ¬ 9223372036854775807 < 1 + D.length := by omega
    have hcat2 : ¬ 9223372036854775807 < D.length + 1 := by omega
    by_cases z : M = 0
    · subst z
      cases D with
      | nil =>
        have hk0 : k = 0 := (HI.out.1 rfl).symm
        have HR0 : Hid ([48] = R) := Lib.hid (by rw [← HRR.out, hk0]; decide +kernel)
        clear hk0 HI hm
        go_wp2
        go_roundw
        case rel => exact ⟨0, 0, [48], by first | rfl | (simp; done), rfl, by omega, by omega, by simp, Lib.hid ⟨fun h => by simp at h, fun _ => HR0.out⟩, (by repeat' (first | (with_reducible refine bset ?_ ?_) | (with_reducible exact Below.refl _ _) | (with_reducible assumption) | (with_reducible refine bdrewN ?_ _) | (with_reducible refine bdrew ?_) | (with_reducible refine balloc0 ?_) | (with_reducible refine balloc ?_ ?_) | (with_reducible apply btrans0; rotate_left; with_reducible assumption) | (with_reducible apply btrans; rotate_left; with_reducible assumption) | exact Below.refl _ _ | assumption | (apply btrans0; rotate_left; assumption) | (apply btrans; rotate_left; assumption) | (simp; done) | omega | (simp; omega)))⟩
        case measure => simp [intOf, B_size]
      | cons x D =>
        have HR1 : Hid (x :: D = R) := Lib.hid (HI.out.2 (by simp))
        clear HI hm
        by_cases hn : n < 0
        · have HT1 : Hid (T = 45 :: x :: D) := Lib.hid (by rw [HT.out, if_pos hn, HR1.out])
          go_wp2
          go_ret
          refine ⟨?_, (by repeat' (first | (with_reducible refine bset ?_ ?_) | (with_reducible exact Below.refl _ _) | (with_reducible assumption) | (with_reducible refine bdrewN ?_ _) | (with_reducible refine bdrew ?_) | (with_reducible refine balloc0 ?_) | (with_reducible refine balloc ?_ ?_) | (with_reducible apply btrans0; rotate_left; with_reducible assumption) | (with_reducible apply btrans; rotate_left; with_reducible assumption) | exact Below.refl _ _ | assumption | (apply btrans0; rotate_left; assumption) | (apply btrans; rotate_left; assumption) | (simp; done) | omega | (simp; omega)))⟩
          rw [HT1.out]
          rfl
        · have HT1 : Hid (T = x :: D) := Lib.hid (by rw [HT.out, if_neg hn, HR1.out])
          go_wp2
          go_ret
          refine ⟨?_, (by repeat' (first | (with_reducible refine bset ?_ ?_) | (with_reducible exact Below.refl _ _) | (with_reducible assumption) | (with_reducible refine bdrewN ?_ _) | (with_reducible refine bdrew ?_) | (with_reducible refine balloc0 ?_) | (with_reducible refine balloc ?_ ?_) | (with_reducible apply btrans0; rotate_left; with_reducible assumption) | (with_reducible apply btrans; rotate_left; with_reducible assumption) | exact Below.refl _ _ | assumption | (apply btrans0; rotate_left; assumption) | (apply btrans; rotate_left; assumption) | (simp; done) | omega | (simp; omega)))⟩
          rw [HT1.out]
          rfl
    · cases f with
      | zero => simp at hm; omega
      | succ f =>
        have z1 : 0 < M := by omega
        have hm3 : M / 10 < 10 ^ f := by rw [Nat.pow_succ] at hm; omega
        have HM := Lib.hid hm3
        have HN : Hid ((if M / 10 = 0 then [] else Lib.decDigits (M / 10)) ++ UInt8.ofNat (48 + M % 10) :: D = R) := Lib.hid (by
          have e : Lib.decDigits M ++ D = R := by
            cases D with
            | nil => rw [List.append_nil, HI.out.1 rfl]; exact HRR.out
            | cons x D => have := HI.out.2 (by simp); rwa [if_neg z] at this
          rw [← e]
          by_cases h10 : M < 10
          · rw [if_pos (by omega), Lib.decDigits_one h10, show M % 10 = M by omega]; rfl
          · rw [if_neg (by omega), dd_step h10, List.append_assoc]; rfl)
        clear hm hm3 z HI
        go_wp2
        go_roundw
        case rel => exact ⟨f, M / 10, UInt8.ofNat (48 + M % 10) :: D, by first | (simp; done) | (simp; congr 2; done) | (simp; congr 2; omega), by go_num, HM.out, by omega, by simp; omega, Lib.hid ⟨fun h => by simp at h, fun _ => HN.out⟩, (by repeat' (first | (with_reducible refine bset ?_ ?_) | (with_reducible exact Below.refl _ _) | (with_reducible assumption) | (with_reducible refine bdrewN ?_ _) | (with_reducible refine bdrew ?_) | (with_reducible refine balloc0 ?_) | (with_reducible refine balloc ?_ ?_) | (with_reducible apply btrans0; rotate_left; with_reducible assumption) | (with_reducible apply btrans; rotate_left; with_reducible assumption) | exact Below.refl _ _ | assumption | (apply btrans0; rotate_left; assumption) | (apply btrans; rotate_left; assumption) | (simp; done) | omega | (simp; omega)))⟩
        case measure =>
          have : M / 10 < M := by omega
          simp [intOf, B_size]
          split <;> omega
set_option maxRecDepth 100000 in
set_option maxHeartbeats 1000000 in
theorem rprint_any (n d : Int) (w : World) (n1 : -9223372036854775808 ≤ n) (n2 : n ≤ 9223372036854775807) (d1 : -9223372036854775808 ≤ d) (d2 : d ≤ 9223372036854775807) :
    Calls Tryd.prog 7 #[.agg #[.int .i64 n, .int .i64 d]] w (PrtPost n d w) := by
  unfold PrtPost
  obtain ⟨E, hE⟩ : ∃ q, chk (n, d) = q := ⟨_, rfl⟩
  by_cases z : E = 0
  case neg =>
    have z' : (E != 0) = true := by rw [bne_iff_ne]; exact z
    rw [prtS_bad (by rw [hE]; exact z)]
    have HE := Lib.hid hE
    clear hE z
    go_enter Tryd.func7, Tryd.ntmps7
    go_wp2_with fail
    refine (rcheck_any n d E _ n1 n2 d1 d2 HE.out).mono ?_
    rintro e w1 ⟨rfl, hb1⟩
    go_wp2
    go_ret2
    exact ⟨rfl, (by repeat' (first | (with_reducible refine bset ?_ ?_) | (with_reducible exact Below.refl _ _) | (with_reducible assumption) | (with_reducible refine bdrewN ?_ _) | (with_reducible refine bdrew ?_) | (with_reducible refine balloc0 ?_) | (with_reducible refine balloc ?_ ?_) | (with_reducible apply btrans0; rotate_left; with_reducible assumption) | (with_reducible apply btrans; rotate_left; with_reducible assumption) | exact Below.refl _ _ | assumption | (apply btrans0; rotate_left; assumption) | (apply btrans; rotate_left; assumption) | (simp; done) | omega | (simp; omega)))⟩
  subst z
  rw [prtS_ok hE]
  obtain ⟨b1, b2, b3, b4, -⟩ := chk_ok hE
  have HE := Lib.hid hE
  obtain ⟨N, hN⟩ : ∃ q, Lib.itoa n = q := ⟨_, rfl⟩
  obtain ⟨D, hD⟩ : ∃ q, Lib.itoa d = q := ⟨_, rfl⟩
  have l1 : N.length ≤ 21 := by rw [← hN]; exact itoa_le21 (by omega) (by omega)
  have l2 : D.length ≤ 21 := by rw [← hD]; exact itoa_le21 (by omega) (by omega)
  have m1 : ¬ 9223372036854775807 < N.length + 1 := by omega
  have m2 : ¬ 9223372036854775807 < N.length + 1 + D.length := by omega
  have m3 : ¬ 9223372036854775807 < N.length + (1 + D.length) := by omega
  have HN := Lib.hid hN
  have HD := Lib.hid hD
  unfold txt
  simp only
  rw [hN, hD]
  clear hE hN hD
  by_cases k : d = 1
  · subst k
    rw [if_pos rfl, List.append_nil]
    go_enter Tryd.func7, Tryd.ntmps7
    go_wp2_with fail
    refine (rcheck_any n 1 0 _ n1 n2 d1 d2 HE.out).mono ?_
    rintro e w1 ⟨rfl, hb1⟩
    have hB1 : Below w.heap.size w w1 := (by repeat' (first | (with_reducible refine bset ?_ ?_) | (with_reducible exact Below.refl _ _) | (with_reducible assumption) | (with_reducible refine bdrewN ?_ _) | (with_reducible refine bdrew ?_) | (with_reducible refine balloc0 ?_) | (with_reducible refine balloc ?_ ?_) | (with_reducible apply btrans0; rotate_left; with_reducible assumption) | (with_reducible apply btrans; rotate_left; with_reducible assumption) | exact Below.refl _ _ | assumption | (apply btrans0; rotate_left; assumption) | (apply btrans; rotate_left; assumption) | (simp; done) | omega | (simp; omega)))
    obtain ⟨k1, f1⟩ := bcell hb1
    have z1 : w.heap.size < w1.heap.size := by have := hb1.size; simp at this; omega
    go_wp2_with fail
    refine (rdec_any n _ (by omega) (by omega)).mono ?_
    rw [HN.out]
    rintro e w2 ⟨rfl, hb2⟩
    go_wp2
    go_ret2
    exact ⟨rfl, (by repeat' (first | (with_reducible refine bset ?_ ?_) | (with_reducible exact Below.refl _ _) | (with_reducible assumption) | (with_reducible refine bdrewN ?_ _) | (with_reducible refine bdrew ?_) | (with_reducible refine balloc0 ?_) | (with_reducible refine balloc ?_ ?_) | (with_reducible apply btrans0; rotate_left; with_reducible assumption) | (with_reducible apply btrans; rotate_left; with_reducible assumption) | exact Below.refl _ _ | assumption | (apply btrans0; rotate_left; assumption) | (apply btrans; rotate_left; assumption) | (simp; done) | omega | (simp; omega)))⟩
  · have k' : (d == 1) = false := beq_eq_false_iff_ne.2 k
    rw [if_neg k]
    clear k
    go_enter Tryd.func7, Tryd.ntmps7
    go_wp2_with fail
    refine (rcheck_any n d 0 _ n1 n2 d1 d2 HE.out).mono ?_
    rintro e w1 ⟨rfl, hb1⟩
    have hB1 : Below w.heap.size w w1 := (by repeat' (first | (with_reducible refine bset ?_ ?_) | (with_reducible exact Below.refl _ _) | (with_reducible assumption) | (with_reducible refine bdrewN ?_ _) | (with_reducible refine bdrew ?_) | (with_reducible refine balloc0 ?_) | (with_reducible refine balloc ?_ ?_) | (with_reducible apply btrans0; rotate_left; with_reducible assumption) | (with_reducible apply btrans; rotate_left; with_reducible assumption) | exact Below.refl _ _ | assumption | (apply btrans0; rotate_left; assumption) | (apply btrans; rotate_left; assumption) | (simp; done) | omega | (simp; omega)))
    have A1 : w1.heap[w.heap.size]? = some (.cells #[.int .i64 n, .int .i64 d] 23 (0, 0)) := (hb1.block _ (by simp)).trans heap_new
    have ca := fun o => cellB A1 o
    have z1 : w.heap.size < w1.heap.size := by have := hb1.size; simp at this; omega
    clear A1 hb1
    go_wp2
    refine wp_region_plan (fun V => Below (w1).heap.size (w1) V) [0, 1, 2, 0, 0, 1, 3, 0, 0, 0] [0, 1, 4, 5, 2, 3, 6, 7, 8, 9] (by kernel_rfl) (by kernel_rfl) ?_ ?_
    case refine_1 => exact (by repeat' (first | (with_reducible refine bset ?_ ?_) | (with_reducible exact Below.refl _ _) | (with_reducible assumption) | (with_reducible refine bdrewN ?_ _) | (with_reducible refine bdrew ?_) | (with_reducible refine balloc0 ?_) | (with_reducible refine balloc ?_ ?_) | (with_reducible apply btrans0; rotate_left; with_reducible assumption) | (with_reducible apply btrans; rotate_left; with_reducible assumption) | exact Below.refl _ _ | assumption | (apply btrans0; rotate_left; assumption) | (apply btrans; rotate_left; assumption) | (simp; done) | omega | (simp; omega)))
    (iterate 4 (first | (refine plan_held rfl (by decide) (by rfl) (fun w1 hS => by (try (obtain ⟨_, _⟩ := bcell (hS rfl))); go_simp; rfl) ?_; simp only [Act.put, List.setIfInBounds_toArray, List.set_cons_zero, List.set_cons_succ]) | (refine plan_skip rfl (by decide) (by rfl) ?_; simp only [Act.put, List.setIfInBounds_toArray, List.set_cons_zero, List.set_cons_succ])))
    (refine plan_keep rfl rfl (by rfl) (fun K hK => ?_); go_simp)
    refine (rdec_any n _ (by omega) (by omega)).mono ?_
    rw [HN.out]
    rintro e wc15 ⟨rfl, hbc15⟩
    (refine hK _ _ (by exact (by repeat' (first | (with_reducible refine bset ?_ ?_) | (with_reducible exact Below.refl _ _) | (with_reducible assumption) | (with_reducible refine bdrewN ?_ _) | (with_reducible refine bdrew ?_) | (with_reducible refine balloc0 ?_) | (with_reducible refine balloc ?_ ?_) | (with_reducible apply btrans0; rotate_left; with_reducible assumption) | (with_reducible apply btrans; rotate_left; with_reducible assumption) | exact Below.refl _ _ | assumption | (apply btrans0; rotate_left; assumption) | (apply btrans; rotate_left; assumption) | (simp; done) | omega | (simp; omega)))) ?_; clear hK K; (try simp only [Act.put, List.setIfInBounds_toArray, List.set_cons_zero, List.set_cons_succ]))
    (iterate 1 (first | (refine plan_held rfl (by decide) (by rfl) (fun w1 hS => by (try (obtain ⟨_, _⟩ := bcell (hS rfl))); go_simp; rfl) ?_; simp only [Act.put, List.setIfInBounds_toArray, List.set_cons_zero, List.set_cons_succ]) | (refine plan_skip rfl (by decide) (by rfl) ?_; simp only [Act.put, List.setIfInBounds_toArray, List.set_cons_zero, List.set_cons_succ])))
    (refine plan_late rfl rfl (by rfl) (fun K hK => ?_); go_simp)
    refine (rdec_any d _ (by omega) (by omega)).mono ?_
    rw [HD.out]
    rintro e wc19 ⟨rfl, hbc19⟩
    (refine hK _ _ ?_; clear hK K; (try simp only [Act.put, List.setIfInBounds_toArray, List.set_cons_zero, List.set_cons_succ]))
    (iterate 3 (first | (refine plan_held rfl (by decide) (by rfl) (fun w1 hS => by (try (obtain ⟨_, _⟩ := bcell (hS rfl))); go_simp; rfl) ?_; simp only [Act.put, List.setIfInBounds_toArray, List.set_cons_zero, List.set_cons_succ]) | (refine plan_skip rfl (by decide) (by rfl) ?_; simp only [Act.put, List.setIfInBounds_toArray, List.set_cons_zero, List.set_cons_succ])))
    refine plan_done ?_
    go_wp2
    go_ret2
    refine ⟨?_, (by repeat' (first | (with_reducible refine bset ?_ ?_) | (with_reducible exact Below.refl _ _) | (with_reducible assumption) | (with_reducible refine bdrewN ?_ _) | (with_reducible refine bdrew ?_) | (with_reducible refine balloc0 ?_) | (with_reducible refine balloc ?_ ?_) | (with_reducible apply btrans0; rotate_left; with_reducible assumption) | (with_reducible apply btrans; rotate_left; with_reducible assumption) | exact Below.refl _ _ | assumption | (apply btrans0; rotate_left; assumption) | (apply btrans; rotate_left; assumption) | (simp; done) | omega | (simp; omega)))⟩
    first | rfl | (simp; done)
end Go.Proofs.YtfkdhcfedjbkfaaDoor
