/- Layer 20 (report), the program: Text. -/
import Derived.Test.YtcmkpnjbnjbegaaDoorVb
import Derived.Test.YtcmkpnjbnjbegaaDoorSh
import Derived.Lib.SmallJoins
import Derived.Lib.AppendIntMem
import Derived.Lib.ItoaLen
set_option linter.unusedVariables false
set_option linter.unusedSimpArgs false
namespace Go.Proofs.YtcmkpnjbnjbegaaDoor
open Go Go.RowKit
attribute [local go_sem] B_getElem B_size B_app B_extract B_get B_toList

theorem B_lit_r (l : List UInt8) (a : UInt8) : B l ++ (⟨#[a]⟩ : ByteArray) = B (l ++ [a]) := B_app l [a]
theorem B_lit_l1 (l : List UInt8) (a : UInt8) : (⟨#[a]⟩ : ByteArray) ++ B l = B ([a] ++ l) := B_app [a] l
theorem B_lit_l6 (l : List UInt8) (a b c d e f : UInt8) : (⟨#[a, b, c, d, e, f]⟩ : ByteArray) ++ B l = B ([a, b, c, d, e, f] ++ l) := B_app [a, b, c, d, e, f] l
theorem B_lit_r6 (l : List UInt8) (a b c d e f : UInt8) : B l ++ (⟨#[a, b, c, d, e, f]⟩ : ByteArray) = B (l ++ [a, b, c, d, e, f]) := B_app l [a, b, c, d, e, f]
theorem B_lit_l8 (l : List UInt8) (a b c d e f g h : UInt8) : (⟨#[a, b, c, d, e, f, g, h]⟩ : ByteArray) ++ B l = B ([a, b, c, d, e, f, g, h] ++ l) := B_app [a, b, c, d, e, f, g, h] l
attribute [local go_sem] B_lit_r B_lit_l1 B_lit_l6 B_lit_r6 B_lit_l8
def kindS (k : Nat) : List UInt8 := [[], [114, 101, 99, 101, 105, 118, 101, 100], [102, 111, 114, 119, 97, 114, 100, 101, 100], [100, 101, 108, 105, 118, 101, 114, 101, 100], [100, 101, 108, 101, 116, 101, 100], [97, 99, 99, 101, 112, 116, 101, 100], [114, 101, 102, 117, 115, 101, 100]].getD k []
def reasonS (k : Nat) : List UInt8 := [[], [108, 105, 102, 101, 116, 105, 109, 101], [114, 111, 117, 116, 101], [115, 116, 111, 114, 97, 103, 101], [98, 108, 111, 99, 107], [97, 117, 116, 104, 101, 110, 116, 105, 99, 97, 116, 105, 111, 110], [100, 117, 112, 108, 105, 99, 97, 116, 101], [104, 111, 112, 115]].getD k []
theorem kindS_len (k : Nat) (h : k < 7) : (kindS k).length ≤ 14 := by
  rcases (show k = 0 ∨ k = 1 ∨ k = 2 ∨ k = 3 ∨ k = 4 ∨ k = 5 ∨ k = 6 by omega) with rfl | rfl | rfl | rfl | rfl | rfl | rfl <;> decide
theorem reasonS_len (k : Nat) (h : k < 8) : (reasonS k).length ≤ 14 := by
  rcases (show k = 0 ∨ k = 1 ∨ k = 2 ∨ k = 3 ∨ k = 4 ∨ k = 5 ∨ k = 6 ∨ k = 7 by omega) with rfl | rfl | rfl | rfl | rfl | rfl | rfl | rfl <;> decide
/-- the tables that start-up code lays -/
def Tabs (w : World) : Prop := Lib.TabIs Tryd.prog w "internal/strconv.uint64pow10" .u64 Lib.pow10Tab ∧ w.var? Tryd.prog "mailboat/report.kinds" = some (((List.range 7).map fun k => Value.string (B (kindS k))).toArray) ∧ w.var? Tryd.prog "mailboat/report.reasons" = some (((List.range 8).map fun k => Value.string (B (reasonS k))).toArray)
theorem gK : Tryd.prog.globalNamed "mailboat/report.kinds" = some 0 := by kernel_rfl
theorem gR : Tryd.prog.globalNamed "mailboat/report.reasons" = some 1 := by kernel_rfl
theorem gP : ∃ g, Tryd.prog.globalNamed "internal/strconv.uint64pow10" = some g := by
  have h : (Tryd.prog.globalNamed "internal/strconv.uint64pow10").isSome = true := by kernel_rfl
  exact Option.isSome_iff_exists.1 h
theorem Tabs.stays {w w' : World} (h : Tabs w) (hb : Below w.heap.size w w') : Tabs w' := by
  obtain ⟨g, hg⟩ := gP
  exact ⟨Go.Joins.tab_stays hg h.1 hb (Nat.le_refl _), Go.Joins.var_stays gK h.2.1 hb (Nat.le_refl _), Go.Joins.var_stays gR h.2.2 hb (Nat.le_refl _)⟩
theorem Tabs.kind {w : World} (h : Tabs w) (k : Nat) (hk : k < 7) : w.cell? ⟨0, k, none⟩ = some (.string (B (kindS k))) := by
  rw [World.var?_cell gK h.2.1 k]; simp [hk]
theorem Tabs.reason {w : World} (h : Tabs w) (k : Nat) (hk : k < 8) : w.cell? ⟨1, k, none⟩ = some (.string (B (reasonS k))) := by
  rw [World.var?_cell gR h.2.2 k]; simp [hk]
theorem Tabs.size {w : World} (h : Tabs w) : 1 < w.heap.size := by
  have e := h.reason 0 (by omega)
  have := World.block_lt_of_cell? w _ e
  exact this
theorem itoa_at {n : Int} {w0 w : World} (h0 : -1000000000000000000 ≤ n) (h1 : n ≤ 1000000000000000000) (hT : Tabs w0) (hb : Below w0.heap.size w0 w) :
    Calls Tryd.prog 28 #[.int .i64 n] w fun e w' => e = .returned (.string (B (Lib.itoa n))) ∧ Below w.heap.size w w' := by
  refine (Tryd.strconv_Itoa n (by omega) (by omega) w (hT.stays hb).1).mono ?_
  rintro e w' ⟨rfl, k, os, rfl⟩
  exact ⟨rfl, Lib.below_grow _ _ (Nat.le_refl _) k os⟩
def textR (r : Rep) : List UInt8 :=
  if repE r ≠ 0 then [] else
  kindS r.kind.toNat ++ ([32] ++ (Lib.itoa r.src ++ ([46] ++ (Lib.itoa r.crt ++ ([46] ++ (Lib.itoa r.seq
    ++ ((if r.tot ≠ 0 then [46] ++ (Lib.itoa r.off ++ ([47] ++ Lib.itoa r.tot)) else [])
    ++ ([32, 110, 111, 100, 101, 32] ++ (Lib.itoa r.node ++ ([32, 116, 105, 109, 101, 32] ++ (Lib.itoa r.time
    ++ (if r.reason ≠ 0 then [32, 114, 101, 97, 115, 111, 110, 32] ++ reasonS r.reason.toNat else []))))))))))))
theorem textR_bad {r : Rep} (h : repE r ≠ 0) : textR r = [] := by unfold textR; rw [if_pos h]
theorem Lib.itoa_le {n : Int} (h0 : -1000000000000000000 ≤ n) (h1 : n ≤ 1000000000000000000) : (Lib.itoa n).length ≤ 21 := Lib.itoa_length_le n (by omega) (by omega)

set_option maxRecDepth 100000 in
set_option maxHeartbeats 3000000 in
theorem repText_any (r : Rep) (w : World) (hT : Tabs w) :
    Calls Tryd.prog 9 #[repV r] w fun e w' => e = .returned (.tuple #[.string (B (textR r)), .int .i64 (repE r)]) ∧ Below w.heap.size w w' := by
  obtain ⟨E, hE⟩ : ∃ E, repE r = E := ⟨_, rfl⟩
  have HE := Lib.hid hE
  by_cases z : E = 0
  case neg =>
    have z' : (E != 0) = true := by simpa using z
    rw [textR_bad (by rw [hE]; exact z), hE]
    clear hE z
    unfold repV
    go_enter Tryd.func9, Tryd.ntmps9
    go_wp2_with fail
    refine (repCheck_any r _).mono ?_
    rintro e w1 ⟨rfl, hb1⟩
    rw [HE.out]
    go_wp2
    go_ret2
    exact ⟨rfl, (by repeat' (first | (with_reducible refine bset ?_ ?_) | (with_reducible exact Below.refl _ _) | (with_reducible assumption) | (with_reducible refine bdrewN ?_ _) | (with_reducible refine bdrew ?_) | (with_reducible refine balloc0 ?_) | (with_reducible refine balloc ?_ ?_) | (with_reducible apply btrans0; rotate_left; with_reducible assumption) | (with_reducible apply btrans; rotate_left; with_reducible assumption) | exact Below.refl _ _ | assumption | (apply btrans0; rotate_left; assumption) | (apply btrans; rotate_left; assumption) | (simp; done) | omega | (simp; omega)))⟩
  subst z
  obtain ⟨R, hR⟩ : ∃ R, textR r = R := ⟨_, rfl⟩
  have HR := Lib.hid hR
  rw [hR, hE]
  obtain ⟨a1, a2, a3, a4, a5, a6, a7, a8, a9, a10⟩ := rep_facts hE
  obtain ⟨i1, i2, i3, i4, i5, i6, i7⟩ := rid_facts a3
  obtain ⟨kind, src, crt, seq, off, tot, node, time, reason⟩ := r
  simp only at a1 a2 a4 a5 a6 a7 a8 a9 a10 i1 i2 i3 i4 i5 i6 i7
  obtain ⟨kn, rfl⟩ : ∃ k : Nat, kind = k := ⟨kind.toNat, by omega⟩
  obtain ⟨rn, rfl⟩ : ∃ k : Nat, reason = k := ⟨reason.toNat, by omega⟩
  unfold textR at hR
  rw [if_neg (by simp [hE])] at hR
  simp only [Int.toNat_natCast] at hR
  have kk : kn < 7 := by omega
  have rk : rn < 8 := by omega
  obtain ⟨K, hK0⟩ : ∃ q, kindS kn = q := ⟨_, rfl⟩
  obtain ⟨N, hN0⟩ : ∃ q, reasonS rn = q := ⟨_, rfl⟩
  obtain ⟨A, hA⟩ : ∃ q, Lib.itoa src = q := ⟨_, rfl⟩
  obtain ⟨C, hC⟩ : ∃ q, Lib.itoa crt = q := ⟨_, rfl⟩
  obtain ⟨D, hD⟩ : ∃ q, Lib.itoa seq = q := ⟨_, rfl⟩
  obtain ⟨F, hF⟩ : ∃ q, Lib.itoa off = q := ⟨_, rfl⟩
  obtain ⟨G, hG⟩ : ∃ q, Lib.itoa tot = q := ⟨_, rfl⟩
  obtain ⟨J, hJ⟩ : ∃ q, Lib.itoa node = q := ⟨_, rfl⟩
  obtain ⟨M, hM⟩ : ∃ q, Lib.itoa time = q := ⟨_, rfl⟩
  have lK : K.length ≤ 14 := hK0 ▸ kindS_len kn kk
  have lN : N.length ≤ 14 := hN0 ▸ reasonS_len rn rk
  have lA : A.length ≤ 21 := hA ▸ Lib.itoa_le (by omega) (by omega)
  have lC : C.length ≤ 21 := hC ▸ Lib.itoa_le (by omega) (by omega)
  have lD : D.length ≤ 21 := hD ▸ Lib.itoa_le (by omega) (by omega)
  have lF : F.length ≤ 21 := hF ▸ Lib.itoa_le (by omega) (by omega)
  have lG : G.length ≤ 21 := hG ▸ Lib.itoa_le (by omega) (by omega)
  have lJ : J.length ≤ 21 := hJ ▸ Lib.itoa_le (by omega) (by omega)
  have lM : M.length ≤ 21 := hM ▸ Lib.itoa_le (by omega) (by omega)
  rw [hK0, hN0, hA, hC, hD, hF, hG, hJ, hM] at hR
  have HA := Lib.hid hA; have HC := Lib.hid hC; have HD := Lib.hid hD; have HF := Lib.hid hF; have HG := Lib.hid hG; have HJ := Lib.hid hJ; have HM := Lib.hid hM; have HR1 := Lib.hid hR
  have HK := Lib.hid hK0; have HN := Lib.hid hN0
  have n1 : (0 : Int) ≤ (kn : Int) := by omega
  have n2 : (kn : Int) < 7 := by omega
  have n3 : (0 : Int) ≤ (rn : Int) := by omega
  have n4 : (rn : Int) < 8 := by omega
  have c1 : ¬ 9223372036854775807 < K.length + 1 := by omega
  have c2 : ¬ 9223372036854775807 < K.length + 1 + A.length := by omega
  have c3 : ¬ 9223372036854775807 < K.length + (A.length + 1) + 1 := by omega
  have c4 : ¬ 9223372036854775807 < K.length + (A.length + 1 + 1) + C.length := by omega
  have c5 : ¬ 9223372036854775807 < K.length + (A.length + 2) + C.length := by omega
  have c6 : ¬ 9223372036854775807 < K.length + (A.length + (C.length + 1) + 1) + 1 := by omega
  have c7 : ¬ 9223372036854775807 < K.length + (A.length + (C.length + 1 + 1) + 1) + D.length := by omega
  have c8 : ¬ 9223372036854775807 < K.length + (A.length + (C.length + 2) + 1) + D.length := by omega
  have c9 : ¬ 9223372036854775807 < 1 + F.length := by omega
  have c10 : ¬ 9223372036854775807 < F.length + 1 + 1 := by omega
  have c11 : ¬ 9223372036854775807 < F.length + 1 + 1 + G.length := by omega
  have c12 : ¬ 9223372036854775807 < F.length + 2 + G.length := by omega
  have c13 : ¬ 9223372036854775807 < 6 + J.length := by omega
  have c14 : ¬ 9223372036854775807 < J.length + 6 + M.length := by omega
  clear hA hC hD hF hG hJ hM hR hK0 hN0 hE HR a3 a10
  unfold repV
  simp only
  go_enter Tryd.func9, Tryd.ntmps9
  go_wp2_with fail
  refine (repCheck_any ⟨(kn : Int), src, crt, seq, off, tot, node, time, (rn : Int)⟩ _).mono ?_
  rw [HE.out]
  rintro e w1 ⟨rfl, hb1⟩
  have hB1 : Below w.heap.size w w1 := (by repeat' (first | (with_reducible refine bset ?_ ?_) | (with_reducible exact Below.refl _ _) | (with_reducible assumption) | (with_reducible refine bdrewN ?_ _) | (with_reducible refine bdrew ?_) | (with_reducible refine balloc0 ?_) | (with_reducible refine balloc ?_ ?_) | (with_reducible apply btrans0; rotate_left; with_reducible assumption) | (with_reducible apply btrans; rotate_left; with_reducible assumption) | exact Below.refl _ _ | assumption | (apply btrans0; rotate_left; assumption) | (apply btrans; rotate_left; assumption) | (simp; done) | omega | (simp; omega)))
  have z1 : w.heap.size < w1.heap.size := by have := hb1.size; simp at this; omega
  have G1 : w1.heap[w.heap.size]? = some (.cells #[.int .i64 kn, .int .i64 src, .int .i64 crt, .int .i64 seq, .int .i64 off, .int .i64 tot, .int .i64 node, .int .i64 time, .int .i64 rn] 25 (0, 0)) := (hb1.block _ (by simp)).trans heap_new
  have T1 : Tabs w1 := hT.stays hB1
  have sz1 := T1.size
  have sz0 : 0 < w1.heap.size := by omega
  have ck := T1.kind kn kk
  have cr := T1.reason rn rk
  rw [HK.out] at ck
  rw [HN.out] at cr
  have cg := fun o => cellB G1 o
  have CG1 : ∀ o, w1.cell? ⟨w.heap.size, o, none⟩ = (#[.int .i64 kn, .int .i64 src, .int .i64 crt, .int .i64 seq, .int .i64 off, .int .i64 tot, .int .i64 node, .int .i64 time, .int .i64 rn] : Array Value)[o]? := cg
  have HT := Lib.hid T1
  have HT1 := HT
  clear hb1 G1 hT
  go_wp2
  refine wp_region_plan (fun V => Below (w1).heap.size (w1) V) [0, 1, 0, 1, 0, 0, 0, 0, 1, 2, 0, 0, 0, 0, 0, 1, 2, 0, 0, 0, 0, 0, 1, 2, 0, 0] [0, 1, 2, 3, 4, 5, 6, 7, 8, 12, 13, 14, 15, 19, 20, 21, 22, 9, 10, 11, 16, 17, 18, 23, 24, 25] (by kernel_rfl) (by kernel_rfl) ?_ ?_
  case refine_1 => exact (by repeat' (first | (with_reducible refine bset ?_ ?_) | (with_reducible exact Below.refl _ _) | (with_reducible assumption) | (with_reducible refine bdrewN ?_ _) | (with_reducible refine bdrew ?_) | (with_reducible refine balloc0 ?_) | (with_reducible refine balloc ?_ ?_) | (with_reducible apply btrans0; rotate_left; with_reducible assumption) | (with_reducible apply btrans; rotate_left; with_reducible assumption) | exact Below.refl _ _ | assumption | (apply btrans0; rotate_left; assumption) | (apply btrans; rotate_left; assumption) | (simp; done) | omega | (simp; omega)))
  (iterate 17 (first | (refine plan_held rfl (by decide) (by rfl) (fun w1 hS => by (try (obtain ⟨_, _⟩ := bcell (hS rfl))); go_simp; rfl) ?_; simp only [Act.put, List.setIfInBounds_toArray, List.set_cons_zero, List.set_cons_succ]) | (refine plan_skip rfl (by decide) (by rfl) ?_; simp only [Act.put, List.setIfInBounds_toArray, List.set_cons_zero, List.set_cons_succ])))
  (refine plan_keep rfl rfl (by rfl) (fun K hK => ?_); go_simp)
  refine (itoa_at (n := src) (by omega) (by omega) HT.out (by repeat' (first | (with_reducible refine bset ?_ ?_) | (with_reducible exact Below.refl _ _) | (with_reducible assumption) | (with_reducible refine bdrewN ?_ _) | (with_reducible refine bdrew ?_) | (with_reducible refine balloc0 ?_) | (with_reducible refine balloc ?_ ?_) | (with_reducible apply btrans0; rotate_left; with_reducible assumption) | (with_reducible apply btrans; rotate_left; with_reducible assumption) | exact Below.refl _ _ | assumption | (apply btrans0; rotate_left; assumption) | (apply btrans; rotate_left; assumption) | (simp; done) | omega | (simp; omega)))).mono ?_
  rw [HA.out]
  rintro e wc21 ⟨rfl, hbc21⟩
  (refine hK _ _ (by exact (by repeat' (first | (with_reducible refine bset ?_ ?_) | (with_reducible exact Below.refl _ _) | (with_reducible assumption) | (with_reducible refine bdrewN ?_ _) | (with_reducible refine bdrew ?_) | (with_reducible refine balloc0 ?_) | (with_reducible refine balloc ?_ ?_) | (with_reducible apply btrans0; rotate_left; with_reducible assumption) | (with_reducible apply btrans; rotate_left; with_reducible assumption) | exact Below.refl _ _ | assumption | (apply btrans0; rotate_left; assumption) | (apply btrans; rotate_left; assumption) | (simp; done) | omega | (simp; omega)))) ?_; clear hK K; (try simp only [Act.put, List.setIfInBounds_toArray, List.set_cons_zero, List.set_cons_succ]))
  (iterate 2 (first | (refine plan_held rfl (by decide) (by rfl) (fun w1 hS => by (try (obtain ⟨_, _⟩ := bcell (hS rfl))); go_simp; rfl) ?_; simp only [Act.put, List.setIfInBounds_toArray, List.set_cons_zero, List.set_cons_succ]) | (refine plan_skip rfl (by decide) (by rfl) ?_; simp only [Act.put, List.setIfInBounds_toArray, List.set_cons_zero, List.set_cons_succ])))
  (refine plan_keep rfl rfl (by rfl) (fun K hK => ?_); go_simp)
  refine (itoa_at (n := crt) (by omega) (by omega) HT.out (by repeat' (first | (with_reducible refine bset ?_ ?_) | (with_reducible exact Below.refl _ _) | (with_reducible assumption) | (with_reducible refine bdrewN ?_ _) | (with_reducible refine bdrew ?_) | (with_reducible refine balloc0 ?_) | (with_reducible refine balloc ?_ ?_) | (with_reducible apply btrans0; rotate_left; with_reducible assumption) | (with_reducible apply btrans; rotate_left; with_reducible assumption) | exact Below.refl _ _ | assumption | (apply btrans0; rotate_left; assumption) | (apply btrans; rotate_left; assumption) | (simp; done) | omega | (simp; omega)))).mono ?_
  rw [HC.out]
  rintro e wc28 ⟨rfl, hbc28⟩
  (refine hK _ _ (by exact (by repeat' (first | (with_reducible refine bset ?_ ?_) | (with_reducible exact Below.refl _ _) | (with_reducible assumption) | (with_reducible refine bdrewN ?_ _) | (with_reducible refine bdrew ?_) | (with_reducible refine balloc0 ?_) | (with_reducible refine balloc ?_ ?_) | (with_reducible apply btrans0; rotate_left; with_reducible assumption) | (with_reducible apply btrans; rotate_left; with_reducible assumption) | exact Below.refl _ _ | assumption | (apply btrans0; rotate_left; assumption) | (apply btrans; rotate_left; assumption) | (simp; done) | omega | (simp; omega)))) ?_; clear hK K; (try simp only [Act.put, List.setIfInBounds_toArray, List.set_cons_zero, List.set_cons_succ]))
  (iterate 2 (first | (refine plan_held rfl (by decide) (by rfl) (fun w1 hS => by (try (obtain ⟨_, _⟩ := bcell (hS rfl))); go_simp; rfl) ?_; simp only [Act.put, List.setIfInBounds_toArray, List.set_cons_zero, List.set_cons_succ]) | (refine plan_skip rfl (by decide) (by rfl) ?_; simp only [Act.put, List.setIfInBounds_toArray, List.set_cons_zero, List.set_cons_succ])))
  (refine plan_keep rfl rfl (by rfl) (fun K hK => ?_); go_simp)
  refine (itoa_at (n := seq) (by omega) (by omega) HT.out (by repeat' (first | (with_reducible refine bset ?_ ?_) | (with_reducible exact Below.refl _ _) | (with_reducible assumption) | (with_reducible refine bdrewN ?_ _) | (with_reducible refine bdrew ?_) | (with_reducible refine balloc0 ?_) | (with_reducible refine balloc ?_ ?_) | (with_reducible apply btrans0; rotate_left; with_reducible assumption) | (with_reducible apply btrans; rotate_left; with_reducible assumption) | exact Below.refl _ _ | assumption | (apply btrans0; rotate_left; assumption) | (apply btrans; rotate_left; assumption) | (simp; done) | omega | (simp; omega)))).mono ?_
  rw [HD.out]
  rintro e wc35 ⟨rfl, hbc35⟩
  (refine hK _ _ (by exact (by repeat' (first | (with_reducible refine bset ?_ ?_) | (with_reducible exact Below.refl _ _) | (with_reducible assumption) | (with_reducible refine bdrewN ?_ _) | (with_reducible refine bdrew ?_) | (with_reducible refine balloc0 ?_) | (with_reducible refine balloc ?_ ?_) | (with_reducible apply btrans0; rotate_left; with_reducible assumption) | (with_reducible apply btrans; rotate_left; with_reducible assumption) | exact Below.refl _ _ | assumption | (apply btrans0; rotate_left; assumption) | (apply btrans; rotate_left; assumption) | (simp; done) | omega | (simp; omega)))) ?_; clear hK K; (try simp only [Act.put, List.setIfInBounds_toArray, List.set_cons_zero, List.set_cons_succ]))
  (iterate 2 (first | (refine plan_held rfl (by decide) (by rfl) (fun w1 hS => by (try (obtain ⟨_, _⟩ := bcell (hS rfl))); go_simp; rfl) ?_; simp only [Act.put, List.setIfInBounds_toArray, List.set_cons_zero, List.set_cons_succ]) | (refine plan_skip rfl (by decide) (by rfl) ?_; simp only [Act.put, List.setIfInBounds_toArray, List.set_cons_zero, List.set_cons_succ])))
  refine plan_done ?_
  obtain ⟨P1, hP1⟩ : ∃ q, K ++ 32 :: (A ++ 46 :: (C ++ 46 :: D)) = q := ⟨_, rfl⟩
  have lP1 : P1.length ≤ 150 := by rw [← hP1]; simp; omega
  rw [hP1]
  have p1 : ¬ 9223372036854775807 < P1.length + (F.length + (G.length + 1) + 1) := by omega
  have p3 : ¬ 9223372036854775807 < J.length + 6 + 1 + 1 + 1 + 1 + 1 + 1 + M.length := by omega
  have p4 : ¬ 9223372036854775807 < P1.length + (J.length + (M.length + 1 + 1 + 1 + 1 + 1 + 1) + 1 + 1 + 1 + 1 + 1 + 1) := by omega
  have p5 : ¬ 9223372036854775807 < 8 + N.length := by omega
  have p2 : ¬ 9223372036854775807 < J.length + 1 + 1 + 1 + 1 + 1 + 1 + 6 := by omega
  have HP1 := Lib.hid hP1
  have bQ5 : Below w1.heap.size w1 wc35 := (by repeat' (first | (with_reducible refine bset ?_ ?_) | (with_reducible exact Below.refl _ _) | (with_reducible assumption) | (with_reducible refine bdrewN ?_ _) | (with_reducible refine bdrew ?_) | (with_reducible refine balloc0 ?_) | (with_reducible refine balloc ?_ ?_) | (with_reducible apply btrans0; rotate_left; with_reducible assumption) | (with_reducible apply btrans; rotate_left; with_reducible assumption) | exact Below.refl _ _ | assumption | (apply btrans0; rotate_left; assumption) | (apply btrans; rotate_left; assumption) | (simp; done) | omega | (simp; omega)))
  have hB5 : Below w.heap.size w wc35 := (by repeat' (first | (with_reducible refine bset ?_ ?_) | (with_reducible exact Below.refl _ _) | (with_reducible assumption) | (with_reducible refine bdrewN ?_ _) | (with_reducible refine bdrew ?_) | (with_reducible refine balloc0 ?_) | (with_reducible refine balloc ?_ ?_) | (with_reducible apply btrans0; rotate_left; with_reducible assumption) | (with_reducible apply btrans; rotate_left; with_reducible assumption) | exact Below.refl _ _ | assumption | (apply btrans0; rotate_left; assumption) | (apply btrans; rotate_left; assumption) | (simp; done) | omega | (simp; omega)))
  have HT5 := Lib.hid (HT1.out.stays bQ5)
  have z5 : w.heap.size < wc35.heap.size := by have := bQ5.size; omega
  have y5 : 1 < wc35.heap.size := HT5.out.size
  have cr5 := HT5.out.reason rn rk
  rw [HN.out] at cr5
  have CG5 : ∀ o, wc35.cell? ⟨w.heap.size, o, none⟩ = (#[.int .i64 kn, .int .i64 src, .int .i64 crt, .int .i64 seq, .int .i64 off, .int .i64 tot, .int .i64 node, .int .i64 time, .int .i64 rn] : Array Value)[o]? := fun o => ((bcell bQ5).1 _ _ z1).trans (CG1 o)
  clear cr ck cg hP1 CG1 T1
  by_cases ht : tot = 0
  · subst ht
    have HTOT : Hid True := Lib.hid trivial
    go_wp2
    refine wp_region_plan (fun V => Below (wc35).heap.size (wc35) V) [0, 0, 0, 1, 2, 0, 0, 0, 0, 1, 3, 0, 0, 0] [0, 1, 2, 3, 7, 8, 9, 4, 5, 6, 10, 11, 12, 13] (by kernel_rfl) (by kernel_rfl) ?_ ?_
    case refine_1 => exact (by repeat' (first | (with_reducible refine bset ?_ ?_) | (with_reducible exact Below.refl _ _) | (with_reducible assumption) | (with_reducible refine bdrewN ?_ _) | (with_reducible refine bdrew ?_) | (with_reducible refine balloc0 ?_) | (with_reducible refine balloc ?_ ?_) | (with_reducible apply btrans0; rotate_left; with_reducible assumption) | (with_reducible apply btrans; rotate_left; with_reducible assumption) | exact Below.refl _ _ | assumption | (apply btrans0; rotate_left; assumption) | (apply btrans; rotate_left; assumption) | (simp; done) | omega | (simp; omega)))
    (iterate 7 (first | (refine plan_held rfl (by decide) (by rfl) (fun w1 hS => by (try (obtain ⟨_, _⟩ := bcell (hS rfl))); go_simp; rfl) ?_; simp only [Act.put, List.setIfInBounds_toArray, List.set_cons_zero, List.set_cons_succ]) | (refine plan_skip rfl (by decide) (by rfl) ?_; simp only [Act.put, List.setIfInBounds_toArray, List.set_cons_zero, List.set_cons_succ])))
    (refine plan_keep rfl rfl (by rfl) (fun K hK => ?_); go_simp)
    refine (itoa_at (n := node) (by omega) (by omega) HT5.out (by repeat' (first | (with_reducible refine bset ?_ ?_) | (with_reducible exact Below.refl _ _) | (with_reducible assumption) | (with_reducible refine bdrewN ?_ _) | (with_reducible refine bdrew ?_) | (with_reducible refine balloc0 ?_) | (with_reducible refine balloc ?_ ?_) | (with_reducible apply btrans0; rotate_left; with_reducible assumption) | (with_reducible apply btrans; rotate_left; with_reducible assumption) | exact Below.refl _ _ | assumption | (apply btrans0; rotate_left; assumption) | (apply btrans; rotate_left; assumption) | (simp; done) | omega | (simp; omega)))).mono ?_
    rw [HJ.out]
    rintro e wc60 ⟨rfl, hbc60⟩
    (refine hK _ _ (by exact (by repeat' (first | (with_reducible refine bset ?_ ?_) | (with_reducible exact Below.refl _ _) | (with_reducible assumption) | (with_reducible refine bdrewN ?_ _) | (with_reducible refine bdrew ?_) | (with_reducible refine balloc0 ?_) | (with_reducible refine balloc ?_ ?_) | (with_reducible apply btrans0; rotate_left; with_reducible assumption) | (with_reducible apply btrans; rotate_left; with_reducible assumption) | exact Below.refl _ _ | assumption | (apply btrans0; rotate_left; assumption) | (apply btrans; rotate_left; assumption) | (simp; done) | omega | (simp; omega)))) ?_; clear hK K; (try simp only [Act.put, List.setIfInBounds_toArray, List.set_cons_zero, List.set_cons_succ]))
    (iterate 2 (first | (refine plan_held rfl (by decide) (by rfl) (fun w1 hS => by (try (obtain ⟨_, _⟩ := bcell (hS rfl))); go_simp; rfl) ?_; simp only [Act.put, List.setIfInBounds_toArray, List.set_cons_zero, List.set_cons_succ]) | (refine plan_skip rfl (by decide) (by rfl) ?_; simp only [Act.put, List.setIfInBounds_toArray, List.set_cons_zero, List.set_cons_succ])))
    (refine plan_late rfl rfl (by rfl) (fun K hK => ?_); go_simp)
    refine (itoa_at (n := time) (by omega) (by omega) HT5.out (by repeat' (first | (with_reducible refine bset ?_ ?_) | (with_reducible exact Below.refl _ _) | (with_reducible assumption) | (with_reducible refine bdrewN ?_ _) | (with_reducible refine bdrew ?_) | (with_reducible refine balloc0 ?_) | (with_reducible refine balloc ?_ ?_) | (with_reducible apply btrans0; rotate_left; with_reducible assumption) | (with_reducible apply btrans; rotate_left; with_reducible assumption) | exact Below.refl _ _ | assumption | (apply btrans0; rotate_left; assumption) | (apply btrans; rotate_left; assumption) | (simp; done) | omega | (simp; omega)))).mono ?_
    rw [HM.out]
    rintro e wc66 ⟨rfl, hbc66⟩
    (refine hK _ _ ?_; clear hK K; (try simp only [Act.put, List.setIfInBounds_toArray, List.set_cons_zero, List.set_cons_succ]))
    (iterate 3 (first | (refine plan_held rfl (by decide) (by rfl) (fun w1 hS => by (try (obtain ⟨_, _⟩ := bcell (hS rfl))); go_simp; rfl) ?_; simp only [Act.put, List.setIfInBounds_toArray, List.set_cons_zero, List.set_cons_succ]) | (refine plan_skip rfl (by decide) (by rfl) ?_; simp only [Act.put, List.setIfInBounds_toArray, List.set_cons_zero, List.set_cons_succ])))
    refine plan_done ?_
    obtain ⟨P3, hP3⟩ : ∃ q, P1 ++ 32 :: 110 :: 111 :: 100 :: 101 :: 32 :: (J ++ 32 :: 116 :: 105 :: 109 :: 101 :: 32 :: M) = q := ⟨_, rfl⟩
    have lP3 : P3.length ≤ 400 := by rw [← hP3]; simp; omega
    rw [hP3]
    have p7 : ¬ 9223372036854775807 < P3.length + (N.length + 1 + 1 + 1 + 1 + 1 + 1 + 1 + 1) := by omega
    have HP3 := Lib.hid hP3
    have bQ8 : Below wc35.heap.size wc35 wc66 := (by repeat' (first | (with_reducible refine bset ?_ ?_) | (with_reducible exact Below.refl _ _) | (with_reducible assumption) | (with_reducible refine bdrewN ?_ _) | (with_reducible refine bdrew ?_) | (with_reducible refine balloc0 ?_) | (with_reducible refine balloc ?_ ?_) | (with_reducible apply btrans0; rotate_left; with_reducible assumption) | (with_reducible apply btrans; rotate_left; with_reducible assumption) | exact Below.refl _ _ | assumption | (apply btrans0; rotate_left; assumption) | (apply btrans; rotate_left; assumption) | (simp; done) | omega | (simp; omega)))
    have hB8 : Below w.heap.size w wc66 := (by repeat' (first | (with_reducible refine bset ?_ ?_) | (with_reducible exact Below.refl _ _) | (with_reducible assumption) | (with_reducible refine bdrewN ?_ _) | (with_reducible refine bdrew ?_) | (with_reducible refine balloc0 ?_) | (with_reducible refine balloc ?_ ?_) | (with_reducible apply btrans0; rotate_left; with_reducible assumption) | (with_reducible apply btrans; rotate_left; with_reducible assumption) | exact Below.refl _ _ | assumption | (apply btrans0; rotate_left; assumption) | (apply btrans; rotate_left; assumption) | (simp; done) | omega | (simp; omega)))
    have HT8 := Lib.hid (HT5.out.stays bQ8)
    have z8 : w.heap.size < wc66.heap.size := by have := bQ8.size; omega
    have y8 : 1 < wc66.heap.size := HT8.out.size
    have cr8 := HT8.out.reason rn rk
    rw [HN.out] at cr8
    have CG8 : ∀ o, wc66.cell? ⟨w.heap.size, o, none⟩ = (#[.int .i64 kn, .int .i64 src, .int .i64 crt, .int .i64 seq, .int .i64 off, .int .i64 0, .int .i64 node, .int .i64 time, .int .i64 rn] : Array Value)[o]? := fun o => ((bcell bQ8).1 _ _ z5).trans (CG5 o)
    clear cr5 CG5 hP3
    by_cases hr : rn = 0
    · subst hr
      go_wp2
      go_ret2
      refine ⟨?_, (by repeat' (first | (with_reducible refine bset ?_ ?_) | (with_reducible exact Below.refl _ _) | (with_reducible assumption) | (with_reducible refine bdrewN ?_ _) | (with_reducible refine bdrew ?_) | (with_reducible refine balloc0 ?_) | (with_reducible refine balloc ?_ ?_) | (with_reducible apply btrans0; rotate_left; with_reducible assumption) | (with_reducible apply btrans; rotate_left; with_reducible assumption) | exact Below.refl _ _ | assumption | (apply btrans0; rotate_left; assumption) | (apply btrans; rotate_left; assumption) | (simp; done) | omega | (simp; omega)))⟩
      rw [← HR1.out, ← HP3.out, ← HP1.out]
      simp [HTOT.out]
    · have hr1 : ((rn : Int) != 0) = true := by rw [bne_iff_ne]; omega
      have hr2 : ¬ (rn : Int) = 0 := by omega
      go_wp2
      go_ret2
      refine ⟨?_, (by repeat' (first | (with_reducible refine bset ?_ ?_) | (with_reducible exact Below.refl _ _) | (with_reducible assumption) | (with_reducible refine bdrewN ?_ _) | (with_reducible refine bdrew ?_) | (with_reducible refine balloc0 ?_) | (with_reducible refine balloc ?_ ?_) | (with_reducible apply btrans0; rotate_left; with_reducible assumption) | (with_reducible apply btrans; rotate_left; with_reducible assumption) | exact Below.refl _ _ | assumption | (apply btrans0; rotate_left; assumption) | (apply btrans; rotate_left; assumption) | (simp; done) | omega | (simp; omega)))⟩
      rw [← HR1.out, ← HP3.out, ← HP1.out]
      simp [hr, HTOT.out]
  · have HTOT : Hid (¬ tot = 0) := Lib.hid ht
    have ht1 : (tot != 0) = true := by rw [bne_iff_ne]; exact ht
    go_wp2
    refine wp_region_plan (fun V => Below (wc35).heap.size (wc35) V) [0, 0, 0, 0, 1, 2, 0, 0, 0, 0, 0, 1, 3, 0, 0, 0] [0, 1, 2, 3, 4, 8, 9, 10, 11, 5, 6, 7, 12, 13, 14, 15] (by kernel_rfl) (by kernel_rfl) ?_ ?_
    case refine_1 => exact (by repeat' (first | (with_reducible refine bset ?_ ?_) | (with_reducible exact Below.refl _ _) | (with_reducible assumption) | (with_reducible refine bdrewN ?_ _) | (with_reducible refine bdrew ?_) | (with_reducible refine balloc0 ?_) | (with_reducible refine balloc ?_ ?_) | (with_reducible apply btrans0; rotate_left; with_reducible assumption) | (with_reducible apply btrans; rotate_left; with_reducible assumption) | exact Below.refl _ _ | assumption | (apply btrans0; rotate_left; assumption) | (apply btrans; rotate_left; assumption) | (simp; done) | omega | (simp; omega)))
    (iterate 9 (first | (refine plan_held rfl (by decide) (by rfl) (fun w1 hS => by (try (obtain ⟨_, _⟩ := bcell (hS rfl))); go_simp; rfl) ?_; simp only [Act.put, List.setIfInBounds_toArray, List.set_cons_zero, List.set_cons_succ]) | (refine plan_skip rfl (by decide) (by rfl) ?_; simp only [Act.put, List.setIfInBounds_toArray, List.set_cons_zero, List.set_cons_succ])))
    (refine plan_keep rfl rfl (by rfl) (fun K hK => ?_); go_simp)
    refine (itoa_at (n := off) (by omega) (by omega) HT5.out (by repeat' (first | (with_reducible refine bset ?_ ?_) | (with_reducible exact Below.refl _ _) | (with_reducible assumption) | (with_reducible refine bdrewN ?_ _) | (with_reducible refine bdrew ?_) | (with_reducible refine balloc0 ?_) | (with_reducible refine balloc ?_ ?_) | (with_reducible apply btrans0; rotate_left; with_reducible assumption) | (with_reducible apply btrans; rotate_left; with_reducible assumption) | exact Below.refl _ _ | assumption | (apply btrans0; rotate_left; assumption) | (apply btrans; rotate_left; assumption) | (simp; done) | omega | (simp; omega)))).mono ?_
    rw [HF.out]
    rintro e wc46 ⟨rfl, hbc46⟩
    (refine hK _ _ (by exact (by repeat' (first | (with_reducible refine bset ?_ ?_) | (with_reducible exact Below.refl _ _) | (with_reducible assumption) | (with_reducible refine bdrewN ?_ _) | (with_reducible refine bdrew ?_) | (with_reducible refine balloc0 ?_) | (with_reducible refine balloc ?_ ?_) | (with_reducible apply btrans0; rotate_left; with_reducible assumption) | (with_reducible apply btrans; rotate_left; with_reducible assumption) | exact Below.refl _ _ | assumption | (apply btrans0; rotate_left; assumption) | (apply btrans; rotate_left; assumption) | (simp; done) | omega | (simp; omega)))) ?_; clear hK K; (try simp only [Act.put, List.setIfInBounds_toArray, List.set_cons_zero, List.set_cons_succ]))
    (iterate 2 (first | (refine plan_held rfl (by decide) (by rfl) (fun w1 hS => by (try (obtain ⟨_, _⟩ := bcell (hS rfl))); go_simp; rfl) ?_; simp only [Act.put, List.setIfInBounds_toArray, List.set_cons_zero, List.set_cons_succ]) | (refine plan_skip rfl (by decide) (by rfl) ?_; simp only [Act.put, List.setIfInBounds_toArray, List.set_cons_zero, List.set_cons_succ])))
    (refine plan_late rfl rfl (by rfl) (fun K hK => ?_); go_simp)
    refine (itoa_at (n := tot) (by omega) (by omega) HT5.out (by repeat' (first | (with_reducible refine bset ?_ ?_) | (with_reducible exact Below.refl _ _) | (with_reducible assumption) | (with_reducible refine bdrewN ?_ _) | (with_reducible refine bdrew ?_) | (with_reducible refine balloc0 ?_) | (with_reducible refine balloc ?_ ?_) | (with_reducible apply btrans0; rotate_left; with_reducible assumption) | (with_reducible apply btrans; rotate_left; with_reducible assumption) | exact Below.refl _ _ | assumption | (apply btrans0; rotate_left; assumption) | (apply btrans; rotate_left; assumption) | (simp; done) | omega | (simp; omega)))).mono ?_
    rw [HG.out]
    rintro e wc53 ⟨rfl, hbc53⟩
    (refine hK _ _ ?_; clear hK K; (try simp only [Act.put, List.setIfInBounds_toArray, List.set_cons_zero, List.set_cons_succ]))
    (iterate 3 (first | (refine plan_held rfl (by decide) (by rfl) (fun w1 hS => by (try (obtain ⟨_, _⟩ := bcell (hS rfl))); go_simp; rfl) ?_; simp only [Act.put, List.setIfInBounds_toArray, List.set_cons_zero, List.set_cons_succ]) | (refine plan_skip rfl (by decide) (by rfl) ?_; simp only [Act.put, List.setIfInBounds_toArray, List.set_cons_zero, List.set_cons_succ])))
    refine plan_done ?_
    obtain ⟨P2, hP2⟩ : ∃ q, P1 ++ 46 :: (F ++ 47 :: G) = q := ⟨_, rfl⟩
    have lP2 : P2.length ≤ 250 := by rw [← hP2]; simp; omega
    rw [hP2]
    have p6 : ¬ 9223372036854775807 < P2.length + (J.length + (M.length + 1 + 1 + 1 + 1 + 1 + 1) + 1 + 1 + 1 + 1 + 1 + 1) := by omega
    have HP2 := Lib.hid hP2
    have bQ7 : Below wc35.heap.size wc35 wc53 := (by repeat' (first | (with_reducible refine bset ?_ ?_) | (with_reducible exact Below.refl _ _) | (with_reducible assumption) | (with_reducible refine bdrewN ?_ _) | (with_reducible refine bdrew ?_) | (with_reducible refine balloc0 ?_) | (with_reducible refine balloc ?_ ?_) | (with_reducible apply btrans0; rotate_left; with_reducible assumption) | (with_reducible apply btrans; rotate_left; with_reducible assumption) | exact Below.refl _ _ | assumption | (apply btrans0; rotate_left; assumption) | (apply btrans; rotate_left; assumption) | (simp; done) | omega | (simp; omega)))
    have hB7 : Below w.heap.size w wc53 := (by repeat' (first | (with_reducible refine bset ?_ ?_) | (with_reducible exact Below.refl _ _) | (with_reducible assumption) | (with_reducible refine bdrewN ?_ _) | (with_reducible refine bdrew ?_) | (with_reducible refine balloc0 ?_) | (with_reducible refine balloc ?_ ?_) | (with_reducible apply btrans0; rotate_left; with_reducible assumption) | (with_reducible apply btrans; rotate_left; with_reducible assumption) | exact Below.refl _ _ | assumption | (apply btrans0; rotate_left; assumption) | (apply btrans; rotate_left; assumption) | (simp; done) | omega | (simp; omega)))
    have HT7 := Lib.hid (HT5.out.stays bQ7)
    have z7 : w.heap.size < wc53.heap.size := by have := bQ7.size; omega
    have y7 : 1 < wc53.heap.size := HT7.out.size
    have cr7 := HT7.out.reason rn rk
    rw [HN.out] at cr7
    have CG7 : ∀ o, wc53.cell? ⟨w.heap.size, o, none⟩ = (#[.int .i64 kn, .int .i64 src, .int .i64 crt, .int .i64 seq, .int .i64 off, .int .i64 tot, .int .i64 node, .int .i64 time, .int .i64 rn] : Array Value)[o]? := fun o => ((bcell bQ7).1 _ _ z5).trans (CG5 o)
    clear cr5 CG5 hP2
    go_wp2
    refine wp_region_plan (fun V => Below (wc53).heap.size (wc53) V) [0, 0, 0, 1, 2, 0, 0, 0, 0, 1, 3, 0, 0, 0] [0, 1, 2, 3, 7, 8, 9, 4, 5, 6, 10, 11, 12, 13] (by kernel_rfl) (by kernel_rfl) ?_ ?_
    case refine_1 => exact (by repeat' (first | (with_reducible refine bset ?_ ?_) | (with_reducible exact Below.refl _ _) | (with_reducible assumption) | (with_reducible refine bdrewN ?_ _) | (with_reducible refine bdrew ?_) | (with_reducible refine balloc0 ?_) | (with_reducible refine balloc ?_ ?_) | (with_reducible apply btrans0; rotate_left; with_reducible assumption) | (with_reducible apply btrans; rotate_left; with_reducible assumption) | exact Below.refl _ _ | assumption | (apply btrans0; rotate_left; assumption) | (apply btrans; rotate_left; assumption) | (simp; done) | omega | (simp; omega)))
    (iterate 7 (first | (refine plan_held rfl (by decide) (by rfl) (fun w1 hS => by (try (obtain ⟨_, _⟩ := bcell (hS rfl))); go_simp; rfl) ?_; simp only [Act.put, List.setIfInBounds_toArray, List.set_cons_zero, List.set_cons_succ]) | (refine plan_skip rfl (by decide) (by rfl) ?_; simp only [Act.put, List.setIfInBounds_toArray, List.set_cons_zero, List.set_cons_succ])))
    (refine plan_keep rfl rfl (by rfl) (fun K hK => ?_); go_simp)
    refine (itoa_at (n := node) (by omega) (by omega) HT7.out (by repeat' (first | (with_reducible refine bset ?_ ?_) | (with_reducible exact Below.refl _ _) | (with_reducible assumption) | (with_reducible refine bdrewN ?_ _) | (with_reducible refine bdrew ?_) | (with_reducible refine balloc0 ?_) | (with_reducible refine balloc ?_ ?_) | (with_reducible apply btrans0; rotate_left; with_reducible assumption) | (with_reducible apply btrans; rotate_left; with_reducible assumption) | exact Below.refl _ _ | assumption | (apply btrans0; rotate_left; assumption) | (apply btrans; rotate_left; assumption) | (simp; done) | omega | (simp; omega)))).mono ?_
    rw [HJ.out]
    rintro e wc60 ⟨rfl, hbc60⟩
    (refine hK _ _ (by exact (by repeat' (first | (with_reducible refine bset ?_ ?_) | (with_reducible exact Below.refl _ _) | (with_reducible assumption) | (with_reducible refine bdrewN ?_ _) | (with_reducible refine bdrew ?_) | (with_reducible refine balloc0 ?_) | (with_reducible refine balloc ?_ ?_) | (with_reducible apply btrans0; rotate_left; with_reducible assumption) | (with_reducible apply btrans; rotate_left; with_reducible assumption) | exact Below.refl _ _ | assumption | (apply btrans0; rotate_left; assumption) | (apply btrans; rotate_left; assumption) | (simp; done) | omega | (simp; omega)))) ?_; clear hK K; (try simp only [Act.put, List.setIfInBounds_toArray, List.set_cons_zero, List.set_cons_succ]))
    (iterate 2 (first | (refine plan_held rfl (by decide) (by rfl) (fun w1 hS => by (try (obtain ⟨_, _⟩ := bcell (hS rfl))); go_simp; rfl) ?_; simp only [Act.put, List.setIfInBounds_toArray, List.set_cons_zero, List.set_cons_succ]) | (refine plan_skip rfl (by decide) (by rfl) ?_; simp only [Act.put, List.setIfInBounds_toArray, List.set_cons_zero, List.set_cons_succ])))
    (refine plan_late rfl rfl (by rfl) (fun K hK => ?_); go_simp)
    refine (itoa_at (n := time) (by omega) (by omega) HT7.out (by repeat' (first | (with_reducible refine bset ?_ ?_) | (with_reducible exact Below.refl _ _) | (with_reducible assumption) | (with_reducible refine bdrewN ?_ _) | (with_reducible refine bdrew ?_) | (with_reducible refine balloc0 ?_) | (with_reducible refine balloc ?_ ?_) | (with_reducible apply btrans0; rotate_left; with_reducible assumption) | (with_reducible apply btrans; rotate_left; with_reducible assumption) | exact Below.refl _ _ | assumption | (apply btrans0; rotate_left; assumption) | (apply btrans; rotate_left; assumption) | (simp; done) | omega | (simp; omega)))).mono ?_
    rw [HM.out]
    rintro e wc66 ⟨rfl, hbc66⟩
    (refine hK _ _ ?_; clear hK K; (try simp only [Act.put, List.setIfInBounds_toArray, List.set_cons_zero, List.set_cons_succ]))
    (iterate 3 (first | (refine plan_held rfl (by decide) (by rfl) (fun w1 hS => by (try (obtain ⟨_, _⟩ := bcell (hS rfl))); go_simp; rfl) ?_; simp only [Act.put, List.setIfInBounds_toArray, List.set_cons_zero, List.set_cons_succ]) | (refine plan_skip rfl (by decide) (by rfl) ?_; simp only [Act.put, List.setIfInBounds_toArray, List.set_cons_zero, List.set_cons_succ])))
    refine plan_done ?_
    obtain ⟨P3, hP3⟩ : ∃ q, P2 ++ 32 :: 110 :: 111 :: 100 :: 101 :: 32 :: (J ++ 32 :: 116 :: 105 :: 109 :: 101 :: 32 :: M) = q := ⟨_, rfl⟩
    have lP3 : P3.length ≤ 400 := by rw [← hP3]; simp; omega
    rw [hP3]
    have p7 : ¬ 9223372036854775807 < P3.length + (N.length + 1 + 1 + 1 + 1 + 1 + 1 + 1 + 1) := by omega
    have HP3 := Lib.hid hP3
    have bQ8 : Below wc53.heap.size wc53 wc66 := (by repeat' (first | (with_reducible refine bset ?_ ?_) | (with_reducible exact Below.refl _ _) | (with_reducible assumption) | (with_reducible refine bdrewN ?_ _) | (with_reducible refine bdrew ?_) | (with_reducible refine balloc0 ?_) | (with_reducible refine balloc ?_ ?_) | (with_reducible apply btrans0; rotate_left; with_reducible assumption) | (with_reducible apply btrans; rotate_left; with_reducible assumption) | exact Below.refl _ _ | assumption | (apply btrans0; rotate_left; assumption) | (apply btrans; rotate_left; assumption) | (simp; done) | omega | (simp; omega)))
    have hB8 : Below w.heap.size w wc66 := (by repeat' (first | (with_reducible refine bset ?_ ?_) | (with_reducible exact Below.refl _ _) | (with_reducible assumption) | (with_reducible refine bdrewN ?_ _) | (with_reducible refine bdrew ?_) | (with_reducible refine balloc0 ?_) | (with_reducible refine balloc ?_ ?_) | (with_reducible apply btrans0; rotate_left; with_reducible assumption) | (with_reducible apply btrans; rotate_left; with_reducible assumption) | exact Below.refl _ _ | assumption | (apply btrans0; rotate_left; assumption) | (apply btrans; rotate_left; assumption) | (simp; done) | omega | (simp; omega)))
    have HT8 := Lib.hid (HT7.out.stays bQ8)
    have z8 : w.heap.size < wc66.heap.size := by have := bQ8.size; omega
    have y8 : 1 < wc66.heap.size := HT8.out.size
    have cr8 := HT8.out.reason rn rk
    rw [HN.out] at cr8
    have CG8 : ∀ o, wc66.cell? ⟨w.heap.size, o, none⟩ = (#[.int .i64 kn, .int .i64 src, .int .i64 crt, .int .i64 seq, .int .i64 off, .int .i64 tot, .int .i64 node, .int .i64 time, .int .i64 rn] : Array Value)[o]? := fun o => ((bcell bQ8).1 _ _ z7).trans (CG7 o)
    clear cr7 CG7 hP3
    by_cases hr : rn = 0
    · subst hr
      go_wp2
      go_ret2
      refine ⟨?_, (by repeat' (first | (with_reducible refine bset ?_ ?_) | (with_reducible exact Below.refl _ _) | (with_reducible assumption) | (with_reducible refine bdrewN ?_ _) | (with_reducible refine bdrew ?_) | (with_reducible refine balloc0 ?_) | (with_reducible refine balloc ?_ ?_) | (with_reducible apply btrans0; rotate_left; with_reducible assumption) | (with_reducible apply btrans; rotate_left; with_reducible assumption) | exact Below.refl _ _ | assumption | (apply btrans0; rotate_left; assumption) | (apply btrans; rotate_left; assumption) | (simp; done) | omega | (simp; omega)))⟩
      rw [← HR1.out, ← HP3.out, ← HP2.out, ← HP1.out]
      simp [HTOT.out]
    · have hr1 : ((rn : Int) != 0) = true := by rw [bne_iff_ne]; omega
      have hr2 : ¬ (rn : Int) = 0 := by omega
      go_wp2
      go_ret2
      refine ⟨?_, (by repeat' (first | (with_reducible refine bset ?_ ?_) | (with_reducible exact Below.refl _ _) | (with_reducible assumption) | (with_reducible refine bdrewN ?_ _) | (with_reducible refine bdrew ?_) | (with_reducible refine balloc0 ?_) | (with_reducible refine balloc ?_ ?_) | (with_reducible apply btrans0; rotate_left; with_reducible assumption) | (with_reducible apply btrans; rotate_left; with_reducible assumption) | exact Below.refl _ _ | assumption | (apply btrans0; rotate_left; assumption) | (apply btrans; rotate_left; assumption) | (simp; done) | omega | (simp; omega)))⟩
      rw [← HR1.out, ← HP3.out, ← HP2.out, ← HP1.out]
      simp [hr, HTOT.out]
end Go.Proofs.YtcmkpnjbnjbegaaDoor
