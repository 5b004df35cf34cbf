/- Layer 20 (report): Encode, the program's and the reference's. -/
import Derived.Test.YtcmkpnjbnjbegaaDoorVa
set_option linter.unusedVariables false
set_option linter.unusedSimpArgs false
namespace Go.Proofs.YtcmkpnjbnjbegaaDoor
open Go Go.RowKit
attribute [local go_sem] B_getElem B_size B_app B_extract B_get B_toList

def magicR : List UInt8 := [65, 82, 49]
def repBody (r : Rep) : List UInt8 := textE magicR ++ (repL r).flatMap intE
/-- the bytes of a record -/
def repR (r : Rep) : List UInt8 := if repE r = 0 then sealE (repBody r) else []
theorem repR_bad {r : Rep} (h : repE r ≠ 0) : repR r = [] := by unfold repR; rw [if_neg h]
theorem repR_ok {r : Rep} (h : repE r = 0) : repR r = sealE (repBody r) := by unfold repR; rw [if_pos h]
theorem repL_len (r : Rep) : (repL r).length = 9 := rfl
theorem rep_facts {r : Rep} (h : repE r = 0) : 1 ≤ r.kind ∧ r.kind ≤ 6 ∧ ridB r.src r.crt r.seq r.off r.tot = true ∧ 0 ≤ r.node ∧ r.node ≤ 15 ∧ 0 ≤ r.time ∧ r.time ≤ 1099511627776 ∧ 0 ≤ r.reason ∧ r.reason ≤ 7 ∧ ((r.kind = 4 ∨ r.kind = 6) ↔ r.reason ≠ 0) := by
  unfold repE at h
  split at h
  · cases h
  · split at h
    · cases h
    · split at h
      · rename_i h1 h2 h3
        have hq : ridB r.src r.crt r.seq r.off r.tot = true := by
          cases hq : ridB r.src r.crt r.seq r.off r.tot with
          | true => rfl
          | false => exact absurd (.inl hq) h2
        have h2' : ¬ (r.node < 0 ∨ 15 < r.node ∨ r.time < 0 ∨ 1099511627776 < r.time ∨ r.reason < 0 ∨ 7 < r.reason) := fun q => h2 (.inr q)
        exact ⟨by omega, by omega, hq, by omega, by omega, by omega, by omega, by omega, by omega, h3⟩
      · cases h
theorem rid_facts {s c q o t : Int} (h : ridB s c q o t = true) : 0 ≤ s ∧ s ≤ 15 ∧ 0 ≤ c ∧ c ≤ 1099511627776 ∧ 0 ≤ q ∧ q ≤ 1099511627776 ∧ ((t = 0 ∧ o = 0) ∨ (1 ≤ t ∧ t ≤ 4096 ∧ 0 ≤ o ∧ o < t)) := of_decide_eq_true h
theorem repL_ok {r : Rep} (h : repE r = 0) : ∀ n ∈ repL r, -1152921504606846976 ≤ n ∧ n ≤ 1152921504606846976 := by
  obtain ⟨a1, a2, a3, a4, a5, a6, a7, a8, a9, _⟩ := rep_facts h
  have b := rid_facts a3
  intro n hn
  simp only [repL, List.mem_cons, List.not_mem_nil, or_false] at hn
  rcases hn with rfl | rfl | rfl | rfl | rfl | rfl | rfl | rfl | rfl <;> omega
theorem ints_size (l : List Int) : (l.flatMap intE).length ≤ 11 * l.length := by
  induction l with
  | nil => simp
  | cons n l ih => have := (intE_len n).2; rw [List.flatMap_cons, List.length_append, List.length_cons]; omega
theorem repBody_len (r : Rep) : (repBody r).length ≤ 200 := by
  have h1 := ints_size (repL r)
  rw [repL_len] at h1
  have h2 := (textE_len magicR).2
  have h3 : magicR.length = 3 := rfl
  unfold repBody
  rw [List.length_append]; omega
theorem repR_len (r : Rep) : (repR r).length ≤ 250 := by
  unfold repR
  split
  · rw [sealE_len]; have := repBody_len r; have := intE_len ((repBody r).length : Int); omega
  · simp
theorem repL_cell (r : Rep) (k : Nat) (h : k < 9) : ∃ n, (repL r)[k]? = some n := ⟨_, List.getElem?_eq_getElem (by rw [repL_len]; exact h)⟩
theorem repL_take (r : Rep) (k : Nat) (n : Int) (h : (repL r)[k]? = some n) : ((repL r).take (k + 1)).flatMap intE = ((repL r).take k).flatMap intE ++ intE n := by
  rw [List.take_add_one, h, List.flatMap_append]; simp
theorem take_sizeR (r : Rep) (k : Nat) : (((repL r).take k).flatMap intE).length ≤ 110 := by
  have h1 := ints_size ((repL r).take k)
  have h2 : ((repL r).take k).length ≤ 9 := by have := List.length_take_le' k (repL r); rw [repL_len] at this; exact this
  omega
theorem rep_run (r : Rep) (k : Nat) (n : Int) (h : k < 9) (hn : (repL r)[k]? = some n) (w : World) : (Instr.index 61 (.agg #[.int .i64 r.kind, .int .i64 r.src, .int .i64 r.crt, .int .i64 r.seq, .int .i64 r.off, .int .i64 r.tot, .int .i64 r.node, .int .i64 r.time, .int .i64 r.reason]) (.int .i64 (k : Int))).run Tryd.prog w = .ok (.int .i64 n) w := by
  rcases (show k = 0 ∨ k = 1 ∨ k = 2 ∨ k = 3 ∨ k = 4 ∨ k = 5 ∨ k = 6 ∨ k = 7 ∨ k = 8 by omega) with rfl | rfl | rfl | rfl | rfl | rfl | rfl | rfl | rfl
  all_goals
    simp only [repL, List.getElem?_cons_zero, List.getElem?_cons_succ, Option.some.injEq] at hn
    subst hn
    kernel_rfl

set_option maxRecDepth 100000 in
set_option maxHeartbeats 3000000 in
theorem repEncode_any (r : Rep) (w : World) :
    Calls Tryd.prog 16 #[repV r] w fun e w' => e = .returned (.tuple #[.string (B (repR r)), .int .i64 (repE r)]) ∧ Below w.heap.size w w' := by
  obtain ⟨E, hE⟩ : ∃ E, repE r = E := ⟨_, rfl⟩
  have HE := Lib.hid hE
  by_cases z : E = 0
  case neg =>
    have z' : (E != 0) = true := by simpa using z
    rw [repR_bad (by rw [hE]; exact z), hE]
    clear hE z
    unfold repV
    go_enter Tryd.func16, Tryd.ntmps16
    go_wp2_with fail
    refine (repCheck_any r _).mono ?_
    rintro e w1 ⟨rfl, hb1⟩
    rw [HE.out]
    go_wp2
    go_ret2
    exact ⟨rfl, (by repeat' (first | (with_reducible refine bset ?_ ?_) | (with_reducible exact Below.refl _ _) | (with_reducible assumption) | (with_reducible refine bdrewN ?_ _) | (with_reducible refine bdrew ?_) | (with_reducible refine balloc0 ?_) | (with_reducible refine balloc ?_ ?_) | (with_reducible apply btrans0; rotate_left; with_reducible assumption) | (with_reducible apply btrans; rotate_left; with_reducible assumption) | exact Below.refl _ _ | assumption | (apply btrans0; rotate_left; assumption) | (apply btrans; rotate_left; assumption) | (simp; done) | omega | (simp; omega)))⟩
  subst z
  rw [repR_ok hE, hE]
  have hbl := repBody_len r
  have HNB := Lib.hid (repL_ok hE)
  obtain ⟨R, hR⟩ : ∃ R, sealE (repBody r) = R := ⟨_, rfl⟩
  have HRR := Lib.hid hR
  rw [hR]
  clear hE hR
  unfold repV
  go_enter Tryd.func16, Tryd.ntmps16
  go_wp2_with fail
  refine (repCheck_any r _).mono ?_
  rintro e w1 ⟨rfl, hb1⟩
  rw [HE.out]
  have hB1 : Below w.heap.size w w1 := (by repeat' (first | (with_reducible refine bset ?_ ?_) | (with_reducible exact Below.refl _ _) | (with_reducible assumption) | (with_reducible refine bdrewN ?_ _) | (with_reducible refine bdrew ?_) | (with_reducible refine balloc0 ?_) | (with_reducible refine balloc ?_ ?_) | (with_reducible apply btrans0; rotate_left; with_reducible assumption) | (with_reducible apply btrans; rotate_left; with_reducible assumption) | exact Below.refl _ _ | assumption | (apply btrans0; rotate_left; assumption) | (apply btrans; rotate_left; assumption) | (simp; done) | omega | (simp; omega)))
  have z1 : w.heap.size < w1.heap.size := by have := hb1.size; simp at this; omega
  have G1 : w1.heap[w.heap.size]? = some (.cells (repA r) 25 (0, 0)) := (hb1.block _ (by simp)).trans heap_new
  clear hb1
  go_wp2_with fail
  refine (text_ok magicR _ (by decide)).mono ?_
  rintro e w2 ⟨rfl, hb2⟩
  have hB2 : Below w.heap.size w w2 := (by repeat' (first | (with_reducible refine bset ?_ ?_) | (with_reducible exact Below.refl _ _) | (with_reducible assumption) | (with_reducible refine bdrewN ?_ _) | (with_reducible refine bdrew ?_) | (with_reducible refine balloc0 ?_) | (with_reducible refine balloc ?_ ?_) | (with_reducible apply btrans0; rotate_left; with_reducible assumption) | (with_reducible apply btrans; rotate_left; with_reducible assumption) | exact Below.refl _ _ | assumption | (apply btrans0; rotate_left; assumption) | (apply btrans; rotate_left; assumption) | (simp; done) | omega | (simp; omega)))
  have z2 : w.heap.size < w2.heap.size := by have := hb2.size; omega
  have G2 := (hb2.block _ z1).trans G1
  have ca := fun o => cellB G2 o
  simp only [repA] at ca
  clear hb2 G1 hB1 G2
  go_wp2
  go_loopw [44, 5] (fun i s wr => ∃ (k : Nat) (out : List UInt8), k ≤ 9 ∧ i = .int .i64 k ∧ s = .string (B out) ∧ Hid (out = textE magicR ++ ((repL r).take k).flatMap intE) ∧ Below w2.heap.size w2 wr ∧ w2.heap.size ≤ wr.heap.size) (fun i _ _ => 9 - (intOf i).toNat)
  case atStart => exact ⟨0, textE magicR, by omega, rfl, rfl, Lib.hid (by simp), (by repeat' (first | (with_reducible refine bset ?_ ?_) | (with_reducible exact Below.refl _ _) | (with_reducible assumption) | (with_reducible refine bdrewN ?_ _) | (with_reducible refine bdrew ?_) | (with_reducible refine balloc0 ?_) | (with_reducible refine balloc ?_ ?_) | (with_reducible apply btrans0; rotate_left; with_reducible assumption) | (with_reducible apply btrans; rotate_left; with_reducible assumption) | exact Below.refl _ _ | assumption | (apply btrans0; rotate_left; assumption) | (apply btrans; rotate_left; assumption) | (simp; done) | omega | (simp; omega))), Nat.le_refl _⟩
  case round =>
    obtain ⟨k, out, hk, rfl, rfl, HO, hB, zr⟩ := hrel
    have m1 : (textE magicR).length ≤ 14 := (textE_len magicR).2
    have hBw : Below w.heap.size w wr := hB2.trans (hB.mono (by omega))
    have k0 : (0 : Int) ≤ (k : Int) := by omega
    by_cases hlt : k < 9
    · obtain ⟨n, hn⟩ := repL_cell r k hlt
      have hix := rep_run r k n hlt hn
      obtain ⟨n1, n2⟩ := HNB.out n (List.mem_of_getElem? hn)
      have m2 := take_sizeR r k
      have hLl : out.length ≤ 200 := by rw [HO.out, List.length_append]; omega
      have HO2 : Hid (out ++ intE n = textE magicR ++ ((repL r).take (k + 1)).flatMap intE) := Lib.hid (by rw [repL_take r k n hn, HO.out]; simp)
      have k1 : (k : Int) < 9 := by omega
      have i1 := (intE_len n).2
      obtain ⟨y, hy⟩ : ∃ y, intE n = y := ⟨_, rfl⟩
      rw [hy] at i1
      have HY := Lib.hid hy
      have hcat : ¬ 9223372036854775807 < out.length + y.length := by omega
      clear hn m2 hy
      go_wp2_with fail
      refine (int_any n _ n1 n2).mono ?_
      rw [HY.out]
      rintro e w5 ⟨rfl, hb5⟩
      have z5 : w2.heap.size ≤ w5.heap.size := by have := hb5.size; omega
      go_wp2
      go_roundw
      case rel => exact ⟨k + 1, out ++ y, by omega, by go_num, rfl, Lib.hid (by rw [← HY.out]; exact HO2.out), ((by repeat' (first | (with_reducible refine bset ?_ ?_) | (with_reducible exact Below.refl _ _) | (with_reducible assumption) | (with_reducible refine bdrewN ?_ _) | (with_reducible refine bdrew ?_) | (with_reducible refine balloc0 ?_) | (with_reducible refine balloc ?_ ?_) | (with_reducible apply btrans0; rotate_left; with_reducible assumption) | (with_reducible apply btrans; rotate_left; with_reducible assumption) | exact Below.refl _ _ | assumption | (apply btrans0; rotate_left; assumption) | (apply btrans; rotate_left; assumption) | (simp; done) | omega | (simp; omega))) : Below w2.heap.size w2 w5), z5⟩
      case measure => simp [intOf]; omega
    · obtain rfl : k = 9 := by omega
      have hten : (repL r).take 9 = repL r := List.take_of_length_le (by rw [repL_len]; exact Nat.le_refl _)
      have hO := HO.out
      rw [hten] at hO
      have hbody : repBody r = out := hO.symm
      rw [hbody] at hbl
      have HBD : Hid (R = sealE out) := Lib.hid (by rw [← HRR.out, ← hbody])
      clear hten hO hbody
      go_wp2_with fail
      refine (seal_ok out _ (by omega)).mono ?_
      rw [← HBD.out]
      rintro e w8 ⟨rfl, hb8⟩
      go_wp2
      go_ret2
      exact ⟨rfl, hB2.trans (((by repeat' (first | (with_reducible refine bset ?_ ?_) | (with_reducible exact Below.refl _ _) | (with_reducible assumption) | (with_reducible refine bdrewN ?_ _) | (with_reducible refine bdrew ?_) | (with_reducible refine balloc0 ?_) | (with_reducible refine balloc ?_ ?_) | (with_reducible apply btrans0; rotate_left; with_reducible assumption) | (with_reducible apply btrans; rotate_left; with_reducible assumption) | exact Below.refl _ _ | assumption | (apply btrans0; rotate_left; assumption) | (apply btrans; rotate_left; assumption) | (simp; done) | omega | (simp; omega))) : Below w2.heap.size w2 w8).mono (by omega))⟩

set_option maxRecDepth 100000 in
set_option maxHeartbeats 3000000 in
theorem rrepEncode_any (r : Rep) (w : World) :
    Calls Tryd.prog 17 #[repV r] w fun e w' => e = .returned (.tuple #[.string (B (repR r)), .int .i64 (repE r)]) ∧ Below w.heap.size w w' := by
  obtain ⟨E, hE⟩ : ∃ E, repE r = E := ⟨_, rfl⟩
  have HE := Lib.hid hE
  by_cases z : E = 0
  case neg =>
    have z' : (E != 0) = true := by simpa using z
    rw [repR_bad (by rw [hE]; exact z), hE]
    clear hE z
    unfold repV
    go_enter Tryd.func17, Tryd.ntmps17
    go_wp2_with fail
    refine (rrepCheck_any r _).mono ?_
    rintro e w1 ⟨rfl, hb1⟩
    rw [HE.out]
    go_wp2
    go_ret2
    exact ⟨rfl, (by repeat' (first | (with_reducible refine bset ?_ ?_) | (with_reducible exact Below.refl _ _) | (with_reducible assumption) | (with_reducible refine bdrewN ?_ _) | (with_reducible refine bdrew ?_) | (with_reducible refine balloc0 ?_) | (with_reducible refine balloc ?_ ?_) | (with_reducible apply btrans0; rotate_left; with_reducible assumption) | (with_reducible apply btrans; rotate_left; with_reducible assumption) | exact Below.refl _ _ | assumption | (apply btrans0; rotate_left; assumption) | (apply btrans; rotate_left; assumption) | (simp; done) | omega | (simp; omega)))⟩
  subst z
  rw [repR_ok hE, hE]
  have hbl := repBody_len r
  have HNB := Lib.hid (repL_ok hE)
  obtain ⟨R, hR⟩ : ∃ R, sealE (repBody r) = R := ⟨_, rfl⟩
  have HRR := Lib.hid hR
  rw [hR]
  clear hE hR
  unfold repV
  go_enter Tryd.func17, Tryd.ntmps17
  go_wp2_with fail
  refine (rrepCheck_any r _).mono ?_
  rintro e w1 ⟨rfl, hb1⟩
  rw [HE.out]
  have hB1 : Below w.heap.size w w1 := (by repeat' (first | (with_reducible refine bset ?_ ?_) | (with_reducible exact Below.refl _ _) | (with_reducible assumption) | (with_reducible refine bdrewN ?_ _) | (with_reducible refine bdrew ?_) | (with_reducible refine balloc0 ?_) | (with_reducible refine balloc ?_ ?_) | (with_reducible apply btrans0; rotate_left; with_reducible assumption) | (with_reducible apply btrans; rotate_left; with_reducible assumption) | exact Below.refl _ _ | assumption | (apply btrans0; rotate_left; assumption) | (apply btrans; rotate_left; assumption) | (simp; done) | omega | (simp; omega)))
  have z1 : w.heap.size < w1.heap.size := by have := hb1.size; simp at this; omega
  have G1 : w1.heap[w.heap.size]? = some (.cells (repA r) 25 (0, 0)) := (hb1.block _ (by simp)).trans heap_new
  clear hb1
  go_wp2_with fail
  refine (rtext_ok magicR _ (by decide)).mono ?_
  rintro e w2 ⟨rfl, hb2⟩
  have hB2 : Below w.heap.size w w2 := (by repeat' (first | (with_reducible refine bset ?_ ?_) | (with_reducible exact Below.refl _ _) | (with_reducible assumption) | (with_reducible refine bdrewN ?_ _) | (with_reducible refine bdrew ?_) | (with_reducible refine balloc0 ?_) | (with_reducible refine balloc ?_ ?_) | (with_reducible apply btrans0; rotate_left; with_reducible assumption) | (with_reducible apply btrans; rotate_left; with_reducible assumption) | exact Below.refl _ _ | assumption | (apply btrans0; rotate_left; assumption) | (apply btrans; rotate_left; assumption) | (simp; done) | omega | (simp; omega)))
  have z2 : w.heap.size < w2.heap.size := by have := hb2.size; omega
  have G2 := (hb2.block _ z1).trans G1
  have ca := fun o => cellB G2 o
  simp only [repA] at ca
  clear hb2 G1 hB1 G2
  go_wp2
  go_loopw [8, 5] (fun i s wr => ∃ (k : Nat) (out : List UInt8), k ≤ 9 ∧ i = .int .i64 k ∧ s = .string (B out) ∧ Hid (out = textE magicR ++ ((repL r).take k).flatMap intE) ∧ Hid (wr.heap[w2.heap.size]? = some (.cells (ints (repL r)).toArray 3 (0, 0))) ∧ Below w2.heap.size w2 wr ∧ w2.heap.size < wr.heap.size) (fun i _ _ => 9 - (intOf i).toNat)
  case atStart => exact ⟨0, textE magicR, by omega, rfl, rfl, Lib.hid (by simp), Lib.hid (by exact heap_new), (by repeat' (first | (with_reducible refine bset ?_ ?_) | (with_reducible exact Below.refl _ _) | (with_reducible assumption) | (with_reducible refine bdrewN ?_ _) | (with_reducible refine bdrew ?_) | (with_reducible refine balloc0 ?_) | (with_reducible refine balloc ?_ ?_) | (with_reducible apply btrans0; rotate_left; with_reducible assumption) | (with_reducible apply btrans; rotate_left; with_reducible assumption) | exact Below.refl _ _ | assumption | (apply btrans0; rotate_left; assumption) | (apply btrans; rotate_left; assumption) | (simp; done) | omega | (simp; omega))), by simp⟩
  case round =>
    obtain ⟨k, out, hk, rfl, rfl, HO, HX, hB, zr⟩ := hrel
    have m1 : (textE magicR).length ≤ 14 := (textE_len magicR).2
    have hBw : Below w.heap.size w wr := hB2.trans (hB.mono (by omega))
    have k0 : (0 : Int) ≤ (k : Int) := by omega
    by_cases hlt : k < 9
    · obtain ⟨n, hn⟩ := repL_cell r k hlt
      have ck : wr.cell? ⟨w2.heap.size, k, none⟩ = some (.int .i64 n) := by
        rw [cellB HX.out k]; unfold ints; rw [List.getElem?_toArray, List.getElem?_map, hn]; rfl
      obtain ⟨n1, n2⟩ := HNB.out n (List.mem_of_getElem? hn)
      have m2 := take_sizeR r k
      have hLl : out.length ≤ 200 := by rw [HO.out, List.length_append]; omega
      have HO2 : Hid (out ++ intE n = textE magicR ++ ((repL r).take (k + 1)).flatMap intE) := Lib.hid (by rw [repL_take r k n hn, HO.out]; simp)
      have k1 : (k : Int) < 9 := by omega
      have i1 := (intE_len n).2
      obtain ⟨y, hy⟩ : ∃ y, intE n = y := ⟨_, rfl⟩
      rw [hy] at i1
      have HY := Lib.hid hy
      have hcat : ¬ 9223372036854775807 < out.length + y.length := by omega
      clear hn m2 hy
      go_wp2_with fail
      refine (rint_any n _ n1 n2).mono ?_
      rw [HY.out]
      rintro e w5 ⟨rfl, hb5⟩
      have X5 := (hb5.block _ zr).trans HX.out
      have HX5 := Lib.hid X5
      have z5 : w2.heap.size < w5.heap.size := by have := hb5.size; omega
      clear X5
      go_wp2
      go_roundw
      case rel => exact ⟨k + 1, out ++ y, by omega, by go_num, rfl, Lib.hid (by rw [← HY.out]; exact HO2.out), HX5, ((by repeat' (first | (with_reducible refine bset ?_ ?_) | (with_reducible exact Below.refl _ _) | (with_reducible assumption) | (with_reducible refine bdrewN ?_ _) | (with_reducible refine bdrew ?_) | (with_reducible refine balloc0 ?_) | (with_reducible refine balloc ?_ ?_) | (with_reducible apply btrans0; rotate_left; with_reducible assumption) | (with_reducible apply btrans; rotate_left; with_reducible assumption) | exact Below.refl _ _ | assumption | (apply btrans0; rotate_left; assumption) | (apply btrans; rotate_left; assumption) | (simp; done) | omega | (simp; omega))) : Below w2.heap.size w2 w5), z5⟩
      case measure => simp [intOf]; omega
    · obtain rfl : k = 9 := by omega
      have hten : (repL r).take 9 = repL r := List.take_of_length_le (by rw [repL_len]; exact Nat.le_refl _)
      have hO := HO.out
      rw [hten] at hO
      have hbody : repBody r = out := hO.symm
      rw [hbody] at hbl
      have HBD : Hid (R = sealE out) := Lib.hid (by rw [← HRR.out, ← hbody])
      clear hten hO hbody
      go_wp2_with fail
      refine (rseal_ok out _ (by omega)).mono ?_
      rw [← HBD.out]
      rintro e w8 ⟨rfl, hb8⟩
      go_wp2
      go_ret2
      exact ⟨rfl, hB2.trans (((by repeat' (first | (with_reducible refine bset ?_ ?_) | (with_reducible exact Below.refl _ _) | (with_reducible assumption) | (with_reducible refine bdrewN ?_ _) | (with_reducible refine bdrew ?_) | (with_reducible refine balloc0 ?_) | (with_reducible refine balloc ?_ ?_) | (with_reducible apply btrans0; rotate_left; with_reducible assumption) | (with_reducible apply btrans; rotate_left; with_reducible assumption) | exact Below.refl _ _ | assumption | (apply btrans0; rotate_left; assumption) | (apply btrans; rotate_left; assumption) | (simp; done) | omega | (simp; omega))) : Below w2.heap.size w2 w8).mono (by omega))⟩
end Go.Proofs.YtcmkpnjbnjbegaaDoor
