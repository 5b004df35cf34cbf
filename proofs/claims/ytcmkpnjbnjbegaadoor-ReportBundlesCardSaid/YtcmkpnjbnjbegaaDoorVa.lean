/- Layer 20 (report): Check and Encode, the program's and the reference's. -/
import Derived.Test.YtcmkpnjbnjbegaaDoorJm
import Derived.Test.YtcmkpnjbnjbegaaDoorJn
import Derived.Test.YtcmkpnjbnjbegaaDoorJo
import Derived.Test.YtcmkpnjbnjbegaaDoorJj
set_option linter.unusedVariables false
set_option linter.unusedSimpArgs false
namespace Go.Proofs.YtcmkpnjbnjbegaaDoor
open Go Go.RowKit
attribute [local go_sem] B_getElem B_size B_app B_extract B_get B_toList

structure Rep where
  kind : Int
  src : Int
  crt : Int
  seq : Int
  off : Int
  tot : Int
  node : Int
  time : Int
  reason : Int
def repL (r : Rep) : List Int := [r.kind, r.src, r.crt, r.seq, r.off, r.tot, r.node, r.time, r.reason]
def mkRep (l : List Int) : Rep := ⟨l.getD 0 0, l.getD 1 0, l.getD 2 0, l.getD 3 0, l.getD 4 0, l.getD 5 0, l.getD 6 0, l.getD 7 0, l.getD 8 0⟩
/-- a record's value -/
def repV (r : Rep) : Value := .agg #[.int .i64 r.kind, .int .i64 r.src, .int .i64 r.crt, .int .i64 r.seq, .int .i64 r.off, .int .i64 r.tot, .int .i64 r.node, .int .i64 r.time, .int .i64 r.reason]
def repA (r : Rep) : Array Value := #[.int .i64 r.kind, .int .i64 r.src, .int .i64 r.crt, .int .i64 r.seq, .int .i64 r.off, .int .i64 r.tot, .int .i64 r.node, .int .i64 r.time, .int .i64 r.reason]
def zRep : Rep := ⟨0, 0, 0, 0, 0, 0, 0, 0, 0⟩
def ridB (s c q o t : Int) : Bool := decide (0 ≤ s ∧ s ≤ 15 ∧ 0 ≤ c ∧ c ≤ 1099511627776 ∧ 0 ≤ q ∧ q ≤ 1099511627776 ∧ ((t = 0 ∧ o = 0) ∨ (1 ≤ t ∧ t ≤ 4096 ∧ 0 ≤ o ∧ o < t)))
/-- why a record is not valid -/
def repE (r : Rep) : Int :=
  if r.kind < 1 ∨ 6 < r.kind then 8
  else if ridB r.src r.crt r.seq r.off r.tot = false ∨ r.node < 0 ∨ 15 < r.node ∨ r.time < 0 ∨ 1099511627776 < r.time ∨ r.reason < 0 ∨ 7 < r.reason then 2
  else if (r.kind = 4 ∨ r.kind = 6) ↔ r.reason ≠ 0 then 0 else 10
theorem mk_repL (r : Rep) : mkRep (repL r) = r := rfl
theorem repL_mk {l : List Int} (h : l.length = 9) : repL (mkRep l) = l := by
  match l, h with
  | [_, _, _, _, _, _, _, _, _], _ => rfl
theorem ridB_of {s c q o t : Int} {v : Bool} (h : (ridB s c q o t = true ∧ v = true) ∨ (ridB s c q o t = false ∧ v = false)) : Ending.returned (.bool v) = Ending.returned (.bool (ridB s c q o t)) := by
  rcases h with ⟨h, rfl⟩ | ⟨h, rfl⟩ <;> rw [h]

set_option maxHeartbeats 2000000 in
theorem pid_any (s c q o t : Int) (w : World) :
    Calls Tryd.prog 30 #[.agg #[.int .i64 s, .int .i64 c, .int .i64 q, .int .i64 o, .int .i64 t]] w fun e w' => e = .returned (.bool (ridB s c q o t)) ∧ Below w.heap.size w w' := by
  obtain ⟨E, hE⟩ : ∃ E, ridB s c q o t = E := ⟨_, rfl⟩
  have HE := Lib.hid hE
  rw [hE]
  clear hE
  by_cases hs : 1 ≤ t ∧ t ≤ 4096
  · have hwk : IntKind.i64.wrap (t - 1) = t - 1 := by rw [IntKind.wrap_i64]; omega
    obtain ⟨h1, h2⟩ := hs
    go_enter Tryd.func30, Tryd.ntmps30
    go_wp2
    all_goals
      go_ret
      refine ⟨ret_bool ?_, (by repeat' (first | (with_reducible refine bset ?_ ?_) | (with_reducible exact Below.refl _ _) | (with_reducible assumption) | (with_reducible refine bdrewN ?_ _) | (with_reducible refine bdrew ?_) | (with_reducible refine balloc0 ?_) | (with_reducible refine balloc ?_ ?_) | (with_reducible apply btrans0; rotate_left; with_reducible assumption) | (with_reducible apply btrans; rotate_left; with_reducible assumption) | exact Below.refl _ _ | assumption | (apply btrans0; rotate_left; assumption) | (apply btrans; rotate_left; assumption) | (simp; done) | omega | (simp; omega)))⟩
      rw [← HE.out, Bool.eq_iff_iff]
      unfold ridB
      simp only [decide_eq_true_eq, true_iff, false_iff, Bool.false_eq_true]
      (try simp only [Bool.not_eq_true', Bool.not_eq_false', decide_eq_true_eq, decide_eq_false_iff_not, beq_iff_eq, beq_eq_false_iff_ne, bne_iff_ne, bne_eq_false_iff_eq, ne_eq, Bool.and_eq_true, Bool.or_eq_true, Bool.and_eq_false_imp, Bool.or_eq_false_iff] at *)
      omega
  · by_cases h1 : 1 ≤ t
    · have h2 : 4096 < t := by omega
      clear hs
      go_enter Tryd.func30, Tryd.ntmps30
      go_wp2
      all_goals
        go_ret
        refine ⟨ret_bool ?_, (by repeat' (first | (with_reducible refine bset ?_ ?_) | (with_reducible exact Below.refl _ _) | (with_reducible assumption) | (with_reducible refine bdrewN ?_ _) | (with_reducible refine bdrew ?_) | (with_reducible refine balloc0 ?_) | (with_reducible refine balloc ?_ ?_) | (with_reducible apply btrans0; rotate_left; with_reducible assumption) | (with_reducible apply btrans; rotate_left; with_reducible assumption) | exact Below.refl _ _ | assumption | (apply btrans0; rotate_left; assumption) | (apply btrans; rotate_left; assumption) | (simp; done) | omega | (simp; omega)))⟩
        rw [← HE.out, Bool.eq_iff_iff]
        unfold ridB
        simp only [decide_eq_true_eq, true_iff, false_iff, Bool.false_eq_true]
        (try simp only [Bool.not_eq_true', Bool.not_eq_false', decide_eq_true_eq, decide_eq_false_iff_not, beq_iff_eq, beq_eq_false_iff_ne, bne_iff_ne, bne_eq_false_iff_eq, ne_eq, Bool.and_eq_true, Bool.or_eq_true, Bool.and_eq_false_imp, Bool.or_eq_false_iff] at *)
        omega
    · have h2 : t < 1 := by omega
      clear hs
      go_enter Tryd.func30, Tryd.ntmps30
      go_wp2
      all_goals
        go_ret
        refine ⟨ret_bool ?_, (by repeat' (first | (with_reducible refine bset ?_ ?_) | (with_reducible exact Below.refl _ _) | (with_reducible assumption) | (with_reducible refine bdrewN ?_ _) | (with_reducible refine bdrew ?_) | (with_reducible refine balloc0 ?_) | (with_reducible refine balloc ?_ ?_) | (with_reducible apply btrans0; rotate_left; with_reducible assumption) | (with_reducible apply btrans; rotate_left; with_reducible assumption) | exact Below.refl _ _ | assumption | (apply btrans0; rotate_left; assumption) | (apply btrans; rotate_left; assumption) | (simp; done) | omega | (simp; omega)))⟩
        rw [← HE.out, Bool.eq_iff_iff]
        unfold ridB
        simp only [decide_eq_true_eq, true_iff, false_iff, Bool.false_eq_true]
        (try simp only [Bool.not_eq_true', Bool.not_eq_false', decide_eq_true_eq, decide_eq_false_iff_not, beq_iff_eq, beq_eq_false_iff_ne, bne_iff_ne, bne_eq_false_iff_eq, ne_eq, Bool.and_eq_true, Bool.or_eq_true, Bool.and_eq_false_imp, Bool.or_eq_false_iff] at *)
        omega
set_option maxHeartbeats 2000000 in
theorem rvid_any (s c q o t : Int) (w : World) :
    Calls Tryd.prog 55 #[.agg #[.int .i64 s, .int .i64 c, .int .i64 q, .int .i64 o, .int .i64 t]] w fun e w' => e = .returned (.bool (ridB s c q o t)) ∧ Below w.heap.size w w' := by
  obtain ⟨E, hE⟩ : ∃ E, ridB s c q o t = E := ⟨_, rfl⟩
  have HE := Lib.hid hE
  rw [hE]
  clear hE
  go_enter Tryd.func55, Tryd.ntmps55
  go_wp2
  all_goals
    go_ret
    refine ⟨ret_bool ?_, (by repeat' (first | (with_reducible refine bset ?_ ?_) | (with_reducible exact Below.refl _ _) | (with_reducible assumption) | (with_reducible refine bdrewN ?_ _) | (with_reducible refine bdrew ?_) | (with_reducible refine balloc0 ?_) | (with_reducible refine balloc ?_ ?_) | (with_reducible apply btrans0; rotate_left; with_reducible assumption) | (with_reducible apply btrans; rotate_left; with_reducible assumption) | exact Below.refl _ _ | assumption | (apply btrans0; rotate_left; assumption) | (apply btrans; rotate_left; assumption) | (simp; done) | omega | (simp; omega)))⟩
    rw [← HE.out, Bool.eq_iff_iff]
    unfold ridB
    simp only [decide_eq_true_eq, true_iff, false_iff, Bool.false_eq_true]
    (try simp only [Bool.not_eq_true', Bool.not_eq_false', decide_eq_true_eq, decide_eq_false_iff_not, beq_iff_eq, beq_eq_false_iff_ne, bne_iff_ne, bne_eq_false_iff_eq, ne_eq, Bool.and_eq_true, Bool.or_eq_true, Bool.and_eq_false_imp, Bool.or_eq_false_iff] at *)
    omega
set_option maxHeartbeats 400000 in
theorem pwithin_any (n lo hi : Int) (w : World) :
    Calls Tryd.prog 29 #[.int .i64 n, .int .i64 lo, .int .i64 hi] w fun e w' => e = .returned (.bool (decide (lo ≤ n) && decide (n ≤ hi))) ∧ w' = w := by
  by_cases h1 : lo ≤ n
  · have d1 : decide (lo ≤ n) = true := decide_eq_true h1
    rw [d1, Bool.true_and]
    clear d1
    go_enter Tryd.func29, Tryd.ntmps29
    go_wp2
    all_goals
      go_ret
      first | exact ⟨rfl, rfl⟩ | (refine ⟨ret_bool ?_, rfl⟩; simp_all)
  · have d1 : decide (lo ≤ n) = false := decide_eq_false h1
    rw [d1, Bool.false_and]
    clear d1
    go_enter Tryd.func29, Tryd.ntmps29
    go_wp2
    all_goals
      go_ret
      first | exact ⟨rfl, rfl⟩ | (refine ⟨ret_bool ?_, rfl⟩; simp_all)
set_option maxHeartbeats 4000000 in
theorem repCheck_any (r : Rep) (w : World) :
    Calls Tryd.prog 10 #[repV r] w fun e w' => e = .returned (.int .i64 (repE r)) ∧ Below w.heap.size w w' := by
  obtain ⟨Q, hQ⟩ : ∃ q, ridB r.src r.crt r.seq r.off r.tot = q := ⟨_, rfl⟩
  obtain ⟨E, hE⟩ : ∃ q, repE r = q := ⟨_, rfl⟩
  have HQ := Lib.hid hQ
  have HE := Lib.hid hE
  rw [hE]
  clear hE hQ
  unfold repV
  by_cases hk : r.kind < 1 ∨ 6 < r.kind
  · have hE : Hid (E = 8) := Lib.hid (by rw [← HE.out]; unfold repE; rw [if_pos hk])
    by_cases h1 : r.kind < 1
    · clear hk
      go_enter Tryd.func10, Tryd.ntmps10
      go_wp2
      go_ret
      exact ⟨ret_int hE.out.symm, (by repeat' (first | (with_reducible refine bset ?_ ?_) | (with_reducible exact Below.refl _ _) | (with_reducible assumption) | (with_reducible refine bdrewN ?_ _) | (with_reducible refine bdrew ?_) | (with_reducible refine balloc0 ?_) | (with_reducible refine balloc ?_ ?_) | (with_reducible apply btrans0; rotate_left; with_reducible assumption) | (with_reducible apply btrans; rotate_left; with_reducible assumption) | exact Below.refl _ _ | assumption | (apply btrans0; rotate_left; assumption) | (apply btrans; rotate_left; assumption) | (simp; done) | omega | (simp; omega)))⟩
    · have h2 : 6 < r.kind := by omega
      have h3 : ¬ r.kind ≤ 6 := by omega
      have h4 : 1 ≤ r.kind := by omega
      clear hk h1
      go_enter Tryd.func10, Tryd.ntmps10
      go_wp2
      go_ret
      exact ⟨ret_int hE.out.symm, (by repeat' (first | (with_reducible refine bset ?_ ?_) | (with_reducible exact Below.refl _ _) | (with_reducible assumption) | (with_reducible refine bdrewN ?_ _) | (with_reducible refine bdrew ?_) | (with_reducible refine balloc0 ?_) | (with_reducible refine balloc ?_ ?_) | (with_reducible apply btrans0; rotate_left; with_reducible assumption) | (with_reducible apply btrans; rotate_left; with_reducible assumption) | exact Below.refl _ _ | assumption | (apply btrans0; rotate_left; assumption) | (apply btrans; rotate_left; assumption) | (simp; done) | omega | (simp; omega)))⟩
  obtain ⟨h1, h2⟩ : 1 ≤ r.kind ∧ r.kind ≤ 6 := by omega
  clear hk
  have HKC : Hid (r.kind = 4 ∨ r.kind = 6 ∨ (r.kind ≠ 4 ∧ r.kind ≠ 6)) := Lib.hid (by omega)
  have H0 : r.reason = 0 ∨ r.reason ≠ 0 := by omega
  have HR0 := Lib.hid H0
  clear H0
  rcases HKC.out with k | k | ⟨k, k'⟩
  · have a4 : (r.kind == 4) = true := beq_iff_eq.2 k
    have a6 : (r.kind == 6) = false := beq_eq_false_iff_ne.2 (by omega)
    have K : Hid (r.kind = 4 ∨ r.kind = 6) := Lib.hid (.inl k)
    clear k
    rcases HR0.out with n | n
    · have n1 : (r.reason != 0) = false := by simpa using n
      have n2 : (r.reason == 0) = true := beq_iff_eq.2 n
      have N := Lib.hid n
      clear n
      cases Q
      all_goals
        go_enter Tryd.func10, Tryd.ntmps10
        go_wp2_with (first | (go_at_call 29; refine (pwithin_any _ _ _ _).mono ?_; rintro e w' ⟨rfl, rfl⟩) | (go_at_call 30; refine (pid_any _ _ _ _ _ _).mono ?_; rw [HQ.out]; rintro e w1 ⟨rfl, hb1⟩; obtain ⟨k1, f1⟩ := bcell hb1; have z1 : w.heap.size < w1.heap.size := (by have := hb1.size; simp at this; omega)))
        all_goals
          go_ret
          refine ⟨ret_int ?_, (by repeat' (first | (with_reducible refine bset ?_ ?_) | (with_reducible exact Below.refl _ _) | (with_reducible assumption) | (with_reducible refine bdrewN ?_ _) | (with_reducible refine bdrew ?_) | (with_reducible refine balloc0 ?_) | (with_reducible refine balloc ?_ ?_) | (with_reducible apply btrans0; rotate_left; with_reducible assumption) | (with_reducible apply btrans; rotate_left; with_reducible assumption) | exact Below.refl _ _ | assumption | (apply btrans0; rotate_left; assumption) | (apply btrans; rotate_left; assumption) | (simp; done) | omega | (simp; omega)))⟩
          rw [← HE.out]
          unfold repE
          rw [HQ.out]
          try simp only [Bool.true_eq_false, false_or, true_or, if_true, Bool.false_eq_true]
          have K' := K.out
          have N' := N.out
          (try simp only [Bool.not_eq_true', Bool.not_eq_false', decide_eq_true_eq, decide_eq_false_iff_not, beq_iff_eq, beq_eq_false_iff_ne, bne_iff_ne, bne_eq_false_iff_eq, ne_eq, Bool.and_eq_true, Bool.or_eq_true, Bool.and_eq_false_imp, Bool.or_eq_false_iff] at *)
          repeat' (first | omega | split)
    · have n1 : (r.reason != 0) = true := by rw [bne_iff_ne]; exact n
      have n2 : (r.reason == 0) = false := beq_eq_false_iff_ne.2 n
      have N := Lib.hid n
      clear n
      cases Q
      all_goals
        go_enter Tryd.func10, Tryd.ntmps10
        go_wp2_with (first | (go_at_call 29; refine (pwithin_any _ _ _ _).mono ?_; rintro e w' ⟨rfl, rfl⟩) | (go_at_call 30; refine (pid_any _ _ _ _ _ _).mono ?_; rw [HQ.out]; rintro e w1 ⟨rfl, hb1⟩; obtain ⟨k1, f1⟩ := bcell hb1; have z1 : w.heap.size < w1.heap.size := (by have := hb1.size; simp at this; omega)))
        all_goals
          go_ret
          refine ⟨ret_int ?_, (by repeat' (first | (with_reducible refine bset ?_ ?_) | (with_reducible exact Below.refl _ _) | (with_reducible assumption) | (with_reducible refine bdrewN ?_ _) | (with_reducible refine bdrew ?_) | (with_reducible refine balloc0 ?_) | (with_reducible refine balloc ?_ ?_) | (with_reducible apply btrans0; rotate_left; with_reducible assumption) | (with_reducible apply btrans; rotate_left; with_reducible assumption) | exact Below.refl _ _ | assumption | (apply btrans0; rotate_left; assumption) | (apply btrans; rotate_left; assumption) | (simp; done) | omega | (simp; omega)))⟩
          rw [← HE.out]
          unfold repE
          rw [HQ.out]
          try simp only [Bool.true_eq_false, false_or, true_or, if_true, Bool.false_eq_true]
          have K' := K.out
          have N' := N.out
          (try simp only [Bool.not_eq_true', Bool.not_eq_false', decide_eq_true_eq, decide_eq_false_iff_not, beq_iff_eq, beq_eq_false_iff_ne, bne_iff_ne, bne_eq_false_iff_eq, ne_eq, Bool.and_eq_true, Bool.or_eq_true, Bool.and_eq_false_imp, Bool.or_eq_false_iff] at *)
          repeat' (first | omega | split)
  · have a4 : (r.kind == 4) = false := beq_eq_false_iff_ne.2 (by omega)
    have a6 : (r.kind == 6) = true := beq_iff_eq.2 k
    have K : Hid (r.kind = 4 ∨ r.kind = 6) := Lib.hid (.inr k)
    clear k
    rcases HR0.out with n | n
    · have n1 : (r.reason != 0) = false := by simpa using n
      have n2 : (r.reason == 0) = true := beq_iff_eq.2 n
      have N := Lib.hid n
      clear n
      cases Q
      all_goals
        go_enter Tryd.func10, Tryd.ntmps10
        go_wp2_with (first | (go_at_call 29; refine (pwithin_any _ _ _ _).mono ?_; rintro e w' ⟨rfl, rfl⟩) | (go_at_call 30; refine (pid_any _ _ _ _ _ _).mono ?_; rw [HQ.out]; rintro e w1 ⟨rfl, hb1⟩; obtain ⟨k1, f1⟩ := bcell hb1; have z1 : w.heap.size < w1.heap.size := (by have := hb1.size; simp at this; omega)))
        all_goals
          go_ret
          refine ⟨ret_int ?_, (by repeat' (first | (with_reducible refine bset ?_ ?_) | (with_reducible exact Below.refl _ _) | (with_reducible assumption) | (with_reducible refine bdrewN ?_ _) | (with_reducible refine bdrew ?_) | (with_reducible refine balloc0 ?_) | (with_reducible refine balloc ?_ ?_) | (with_reducible apply btrans0; rotate_left; with_reducible assumption) | (with_reducible apply btrans; rotate_left; with_reducible assumption) | exact Below.refl _ _ | assumption | (apply btrans0; rotate_left; assumption) | (apply btrans; rotate_left; assumption) | (simp; done) | omega | (simp; omega)))⟩
          rw [← HE.out]
          unfold repE
          rw [HQ.out]
          try simp only [Bool.true_eq_false, false_or, true_or, if_true, Bool.false_eq_true]
          have K' := K.out
          have N' := N.out
          (try simp only [Bool.not_eq_true', Bool.not_eq_false', decide_eq_true_eq, decide_eq_false_iff_not, beq_iff_eq, beq_eq_false_iff_ne, bne_iff_ne, bne_eq_false_iff_eq, ne_eq, Bool.and_eq_true, Bool.or_eq_true, Bool.and_eq_false_imp, Bool.or_eq_false_iff] at *)
          repeat' (first | omega | split)
    · have n1 : (r.reason != 0) = true := by rw [bne_iff_ne]; exact n
      have n2 : (r.reason == 0) = false := beq_eq_false_iff_ne.2 n
      have N := Lib.hid n
      clear n
      cases Q
      all_goals
        go_enter Tryd.func10, Tryd.ntmps10
        go_wp2_with (first | (go_at_call 29; refine (pwithin_any _ _ _ _).mono ?_; rintro e w' ⟨rfl, rfl⟩) | (go_at_call 30; refine (pid_any _ _ _ _ _ _).mono ?_; rw [HQ.out]; rintro e w1 ⟨rfl, hb1⟩; obtain ⟨k1, f1⟩ := bcell hb1; have z1 : w.heap.size < w1.heap.size := (by have := hb1.size; simp at this; omega)))
        all_goals
          go_ret
          refine ⟨ret_int ?_, (by repeat' (first | (with_reducible refine bset ?_ ?_) | (with_reducible exact Below.refl _ _) | (with_reducible assumption) | (with_reducible refine bdrewN ?_ _) | (with_reducible refine bdrew ?_) | (with_reducible refine balloc0 ?_) | (with_reducible refine balloc ?_ ?_) | (with_reducible apply btrans0; rotate_left; with_reducible assumption) | (with_reducible apply btrans; rotate_left; with_reducible assumption) | exact Below.refl _ _ | assumption | (apply btrans0; rotate_left; assumption) | (apply btrans; rotate_left; assumption) | (simp; done) | omega | (simp; omega)))⟩
          rw [← HE.out]
          unfold repE
          rw [HQ.out]
          try simp only [Bool.true_eq_false, false_or, true_or, if_true, Bool.false_eq_true]
          have K' := K.out
          have N' := N.out
          (try simp only [Bool.not_eq_true', Bool.not_eq_false', decide_eq_true_eq, decide_eq_false_iff_not, beq_iff_eq, beq_eq_false_iff_ne, bne_iff_ne, bne_eq_false_iff_eq, ne_eq, Bool.and_eq_true, Bool.or_eq_true, Bool.and_eq_false_imp, Bool.or_eq_false_iff] at *)
          repeat' (first | omega | split)
  · have a4 : (r.kind == 4) = false := beq_eq_false_iff_ne.2 k
    have a6 : (r.kind == 6) = false := beq_eq_false_iff_ne.2 k'
    have K : Hid (¬ (r.kind = 4 ∨ r.kind = 6)) := Lib.hid (by omega)
    clear k k'
    rcases HR0.out with n | n
    · have n1 : (r.reason != 0) = false := by simpa using n
      have n2 : (r.reason == 0) = true := beq_iff_eq.2 n
      have N := Lib.hid n
      clear n
      cases Q
      all_goals
        go_enter Tryd.func10, Tryd.ntmps10
        go_wp2_with (first | (go_at_call 29; refine (pwithin_any _ _ _ _).mono ?_; rintro e w' ⟨rfl, rfl⟩) | (go_at_call 30; refine (pid_any _ _ _ _ _ _).mono ?_; rw [HQ.out]; rintro e w1 ⟨rfl, hb1⟩; obtain ⟨k1, f1⟩ := bcell hb1; have z1 : w.heap.size < w1.heap.size := (by have := hb1.size; simp at this; omega)))
        all_goals
          go_ret
          refine ⟨ret_int ?_, (by repeat' (first | (with_reducible refine bset ?_ ?_) | (with_reducible exact Below.refl _ _) | (with_reducible assumption) | (with_reducible refine bdrewN ?_ _) | (with_reducible refine bdrew ?_) | (with_reducible refine balloc0 ?_) | (with_reducible refine balloc ?_ ?_) | (with_reducible apply btrans0; rotate_left; with_reducible assumption) | (with_reducible apply btrans; rotate_left; with_reducible assumption) | exact Below.refl _ _ | assumption | (apply btrans0; rotate_left; assumption) | (apply btrans; rotate_left; assumption) | (simp; done) | omega | (simp; omega)))⟩
          rw [← HE.out]
          unfold repE
          rw [HQ.out]
          try simp only [Bool.true_eq_false, false_or, true_or, if_true, Bool.false_eq_true]
          have K' := K.out
          have N' := N.out
          (try simp only [Bool.not_eq_true', Bool.not_eq_false', decide_eq_true_eq, decide_eq_false_iff_not, beq_iff_eq, beq_eq_false_iff_ne, bne_iff_ne, bne_eq_false_iff_eq, ne_eq, Bool.and_eq_true, Bool.or_eq_true, Bool.and_eq_false_imp, Bool.or_eq_false_iff] at *)
          repeat' (first | omega | split)
    · have n1 : (r.reason != 0) = true := by rw [bne_iff_ne]; exact n
      have n2 : (r.reason == 0) = false := beq_eq_false_iff_ne.2 n
      have N := Lib.hid n
      clear n
      cases Q
      all_goals
        go_enter Tryd.func10, Tryd.ntmps10
        go_wp2_with (first | (go_at_call 29; refine (pwithin_any _ _ _ _).mono ?_; rintro e w' ⟨rfl, rfl⟩) | (go_at_call 30; refine (pid_any _ _ _ _ _ _).mono ?_; rw [HQ.out]; rintro e w1 ⟨rfl, hb1⟩; obtain ⟨k1, f1⟩ := bcell hb1; have z1 : w.heap.size < w1.heap.size := (by have := hb1.size; simp at this; omega)))
        all_goals
          go_ret
          refine ⟨ret_int ?_, (by repeat' (first | (with_reducible refine bset ?_ ?_) | (with_reducible exact Below.refl _ _) | (with_reducible assumption) | (with_reducible refine bdrewN ?_ _) | (with_reducible refine bdrew ?_) | (with_reducible refine balloc0 ?_) | (with_reducible refine balloc ?_ ?_) | (with_reducible apply btrans0; rotate_left; with_reducible assumption) | (with_reducible apply btrans; rotate_left; with_reducible assumption) | exact Below.refl _ _ | assumption | (apply btrans0; rotate_left; assumption) | (apply btrans; rotate_left; assumption) | (simp; done) | omega | (simp; omega)))⟩
          rw [← HE.out]
          unfold repE
          rw [HQ.out]
          try simp only [Bool.true_eq_false, false_or, true_or, if_true, Bool.false_eq_true]
          have K' := K.out
          have N' := N.out
          (try simp only [Bool.not_eq_true', Bool.not_eq_false', decide_eq_true_eq, decide_eq_false_iff_not, beq_iff_eq, beq_eq_false_iff_ne, bne_iff_ne, bne_eq_false_iff_eq, ne_eq, Bool.and_eq_true, Bool.or_eq_true, Bool.and_eq_false_imp, Bool.or_eq_false_iff] at *)
          repeat' (first | omega | split)
set_option maxHeartbeats 4000000 in
theorem rrepCheck_any (r : Rep) (w : World) :
    Calls Tryd.prog 21 #[repV r] w fun e w' => e = .returned (.int .i64 (repE r)) ∧ Below w.heap.size w w' := by
  obtain ⟨Q, hQ⟩ : ∃ q, ridB r.src r.crt r.seq r.off r.tot = q := ⟨_, rfl⟩
  obtain ⟨E, hE⟩ : ∃ q, repE r = q := ⟨_, rfl⟩
  have HQ := Lib.hid hQ
  have HE := Lib.hid hE
  rw [hE]
  clear hE hQ
  unfold repV
  by_cases hk : r.kind < 1 ∨ 6 < r.kind
  · have hE : Hid (E = 8) := Lib.hid (by rw [← HE.out]; unfold repE; rw [if_pos hk])
    by_cases h1 : r.kind < 1
    · clear hk
      go_enter Tryd.func21, Tryd.ntmps21
      go_wp2
      go_ret
      exact ⟨ret_int hE.out.symm, (by repeat' (first | (with_reducible refine bset ?_ ?_) | (with_reducible exact Below.refl _ _) | (with_reducible assumption) | (with_reducible refine bdrewN ?_ _) | (with_reducible refine bdrew ?_) | (with_reducible refine balloc0 ?_) | (with_reducible refine balloc ?_ ?_) | (with_reducible apply btrans0; rotate_left; with_reducible assumption) | (with_reducible apply btrans; rotate_left; with_reducible assumption) | exact Below.refl _ _ | assumption | (apply btrans0; rotate_left; assumption) | (apply btrans; rotate_left; assumption) | (simp; done) | omega | (simp; omega)))⟩
    · have h2 : 6 < r.kind := by omega
      have h3 : ¬ r.kind ≤ 6 := by omega
      have h4 : 1 ≤ r.kind := by omega
      clear hk h1
      go_enter Tryd.func21, Tryd.ntmps21
      go_wp2
      go_ret
      exact ⟨ret_int hE.out.symm, (by repeat' (first | (with_reducible refine bset ?_ ?_) | (with_reducible exact Below.refl _ _) | (with_reducible assumption) | (with_reducible refine bdrewN ?_ _) | (with_reducible refine bdrew ?_) | (with_reducible refine balloc0 ?_) | (with_reducible refine balloc ?_ ?_) | (with_reducible apply btrans0; rotate_left; with_reducible assumption) | (with_reducible apply btrans; rotate_left; with_reducible assumption) | exact Below.refl _ _ | assumption | (apply btrans0; rotate_left; assumption) | (apply btrans; rotate_left; assumption) | (simp; done) | omega | (simp; omega)))⟩
  obtain ⟨h1, h2⟩ : 1 ≤ r.kind ∧ r.kind ≤ 6 := by omega
  clear hk
  have HKC : Hid (r.kind = 4 ∨ r.kind = 6 ∨ (r.kind ≠ 4 ∧ r.kind ≠ 6)) := Lib.hid (by omega)
  have H0 : r.reason = 0 ∨ r.reason ≠ 0 := by omega
  have HR0 := Lib.hid H0
  clear H0
  rcases HKC.out with k | k | ⟨k, k'⟩
  · have a4 : (r.kind == 4) = true := beq_iff_eq.2 k
    have a6 : (r.kind == 6) = false := beq_eq_false_iff_ne.2 (by omega)
    have K : Hid (r.kind = 4 ∨ r.kind = 6) := Lib.hid (.inl k)
    clear k
    rcases HR0.out with n | n
    · have n1 : (r.reason != 0) = false := by simpa using n
      have n2 : (r.reason == 0) = true := beq_iff_eq.2 n
      have N := Lib.hid n
      clear n
      cases Q
      all_goals
        go_enter Tryd.func21, Tryd.ntmps21
        go_wp2_with (go_at_call 55; refine (rvid_any _ _ _ _ _ _).mono ?_; rw [HQ.out]; rintro e w1 ⟨rfl, hb1⟩; obtain ⟨k1, f1⟩ := bcell hb1; have z1 : w.heap.size < w1.heap.size := (by have := hb1.size; simp at this; omega))
        all_goals
          go_ret
          refine ⟨ret_int ?_, (by repeat' (first | (with_reducible refine bset ?_ ?_) | (with_reducible exact Below.refl _ _) | (with_reducible assumption) | (with_reducible refine bdrewN ?_ _) | (with_reducible refine bdrew ?_) | (with_reducible refine balloc0 ?_) | (with_reducible refine balloc ?_ ?_) | (with_reducible apply btrans0; rotate_left; with_reducible assumption) | (with_reducible apply btrans; rotate_left; with_reducible assumption) | exact Below.refl _ _ | assumption | (apply btrans0; rotate_left; assumption) | (apply btrans; rotate_left; assumption) | (simp; done) | omega | (simp; omega)))⟩
          rw [← HE.out]
          unfold repE
          rw [HQ.out]
          try simp only [Bool.true_eq_false, false_or, true_or, if_true, Bool.false_eq_true]
          have K' := K.out
          have N' := N.out
          (try simp only [Bool.not_eq_true', Bool.not_eq_false', decide_eq_true_eq, decide_eq_false_iff_not, beq_iff_eq, beq_eq_false_iff_ne, bne_iff_ne, bne_eq_false_iff_eq, ne_eq, Bool.and_eq_true, Bool.or_eq_true, Bool.and_eq_false_imp, Bool.or_eq_false_iff] at *)
          repeat' (first | omega | split)
    · have n1 : (r.reason != 0) = true := by rw [bne_iff_ne]; exact n
      have n2 : (r.reason == 0) = false := beq_eq_false_iff_ne.2 n
      have N := Lib.hid n
      clear n
      cases Q
      all_goals
        go_enter Tryd.func21, Tryd.ntmps21
        go_wp2_with (go_at_call 55; refine (rvid_any _ _ _ _ _ _).mono ?_; rw [HQ.out]; rintro e w1 ⟨rfl, hb1⟩; obtain ⟨k1, f1⟩ := bcell hb1; have z1 : w.heap.size < w1.heap.size := (by have := hb1.size; simp at this; omega))
        all_goals
          go_ret
          refine ⟨ret_int ?_, (by repeat' (first | (with_reducible refine bset ?_ ?_) | (with_reducible exact Below.refl _ _) | (with_reducible assumption) | (with_reducible refine bdrewN ?_ _) | (with_reducible refine bdrew ?_) | (with_reducible refine balloc0 ?_) | (with_reducible refine balloc ?_ ?_) | (with_reducible apply btrans0; rotate_left; with_reducible assumption) | (with_reducible apply btrans; rotate_left; with_reducible assumption) | exact Below.refl _ _ | assumption | (apply btrans0; rotate_left; assumption) | (apply btrans; rotate_left; assumption) | (simp; done) | omega | (simp; omega)))⟩
          rw [← HE.out]
          unfold repE
          rw [HQ.out]
          try simp only [Bool.true_eq_false, false_or, true_or, if_true, Bool.false_eq_true]
          have K' := K.out
          have N' := N.out
          (try simp only [Bool.not_eq_true', Bool.not_eq_false', decide_eq_true_eq, decide_eq_false_iff_not, beq_iff_eq, beq_eq_false_iff_ne, bne_iff_ne, bne_eq_false_iff_eq, ne_eq, Bool.and_eq_true, Bool.or_eq_true, Bool.and_eq_false_imp, Bool.or_eq_false_iff] at *)
          repeat' (first | omega | split)
  · have a4 : (r.kind == 4) = false := beq_eq_false_iff_ne.2 (by omega)
    have a6 : (r.kind == 6) = true := beq_iff_eq.2 k
    have K : Hid (r.kind = 4 ∨ r.kind = 6) := Lib.hid (.inr k)
    clear k
    rcases HR0.out with n | n
    · have n1 : (r.reason != 0) = false := by simpa using n
      have n2 : (r.reason == 0) = true := beq_iff_eq.2 n
      have N := Lib.hid n
      clear n
      cases Q
      all_goals
        go_enter Tryd.func21, Tryd.ntmps21
        go_wp2_with (go_at_call 55; refine (rvid_any _ _ _ _ _ _).mono ?_; rw [HQ.out]; rintro e w1 ⟨rfl, hb1⟩; obtain ⟨k1, f1⟩ := bcell hb1; have z1 : w.heap.size < w1.heap.size := (by have := hb1.size; simp at this; omega))
        all_goals
          go_ret
          refine ⟨ret_int ?_, (by repeat' (first | (with_reducible refine bset ?_ ?_) | (with_reducible exact Below.refl _ _) | (with_reducible assumption) | (with_reducible refine bdrewN ?_ _) | (with_reducible refine bdrew ?_) | (with_reducible refine balloc0 ?_) | (with_reducible refine balloc ?_ ?_) | (with_reducible apply btrans0; rotate_left; with_reducible assumption) | (with_reducible apply btrans; rotate_left; with_reducible assumption) | exact Below.refl _ _ | assumption | (apply btrans0; rotate_left; assumption) | (apply btrans; rotate_left; assumption) | (simp; done) | omega | (simp; omega)))⟩
          rw [← HE.out]
          unfold repE
          rw [HQ.out]
          try simp only [Bool.true_eq_false, false_or, true_or, if_true, Bool.false_eq_true]
          have K' := K.out
          have N' := N.out
          (try simp only [Bool.not_eq_true', Bool.not_eq_false', decide_eq_true_eq, decide_eq_false_iff_not, beq_iff_eq, beq_eq_false_iff_ne, bne_iff_ne, bne_eq_false_iff_eq, ne_eq, Bool.and_eq_true, Bool.or_eq_true, Bool.and_eq_false_imp, Bool.or_eq_false_iff] at *)
          repeat' (first | omega | split)
    · have n1 : (r.reason != 0) = true := by rw [bne_iff_ne]; exact n
      have n2 : (r.reason == 0) = false := beq_eq_false_iff_ne.2 n
      have N := Lib.hid n
      clear n
      cases Q
      all_goals
        go_enter Tryd.func21, Tryd.ntmps21
        go_wp2_with (go_at_call 55; refine (rvid_any _ _ _ _ _ _).mono ?_; rw [HQ.out]; rintro e w1 ⟨rfl, hb1⟩; obtain ⟨k1, f1⟩ := bcell hb1; have z1 : w.heap.size < w1.heap.size := (by have := hb1.size; simp at this; omega))
        all_goals
          go_ret
          refine ⟨ret_int ?_, (by repeat' (first | (with_reducible refine bset ?_ ?_) | (with_reducible exact Below.refl _ _) | (with_reducible assumption) | (with_reducible refine bdrewN ?_ _) | (with_reducible refine bdrew ?_) | (with_reducible refine balloc0 ?_) | (with_reducible refine balloc ?_ ?_) | (with_reducible apply btrans0; rotate_left; with_reducible assumption) | (with_reducible apply btrans; rotate_left; with_reducible assumption) | exact Below.refl _ _ | assumption | (apply btrans0; rotate_left; assumption) | (apply btrans; rotate_left; assumption) | (simp; done) | omega | (simp; omega)))⟩
          rw [← HE.out]
          unfold repE
          rw [HQ.out]
          try simp only [Bool.true_eq_false, false_or, true_or, if_true, Bool.false_eq_true]
          have K' := K.out
          have N' := N.out
          (try simp only [Bool.not_eq_true', Bool.not_eq_false', decide_eq_true_eq, decide_eq_false_iff_not, beq_iff_eq, beq_eq_false_iff_ne, bne_iff_ne, bne_eq_false_iff_eq, ne_eq, Bool.and_eq_true, Bool.or_eq_true, Bool.and_eq_false_imp, Bool.or_eq_false_iff] at *)
          repeat' (first | omega | split)
  · have a4 : (r.kind == 4) = false := beq_eq_false_iff_ne.2 k
    have a6 : (r.kind == 6) = false := beq_eq_false_iff_ne.2 k'
    have K : Hid (¬ (r.kind = 4 ∨ r.kind = 6)) := Lib.hid (by omega)
    clear k k'
    rcases HR0.out with n | n
    · have n1 : (r.reason != 0) = false := by simpa using n
      have n2 : (r.reason == 0) = true := beq_iff_eq.2 n
      have N := Lib.hid n
      clear n
      cases Q
      all_goals
        go_enter Tryd.func21, Tryd.ntmps21
        go_wp2_with (go_at_call 55; refine (rvid_any _ _ _ _ _ _).mono ?_; rw [HQ.out]; rintro e w1 ⟨rfl, hb1⟩; obtain ⟨k1, f1⟩ := bcell hb1; have z1 : w.heap.size < w1.heap.size := (by have := hb1.size; simp at this; omega))
        all_goals
          go_ret
          refine ⟨ret_int ?_, (by repeat' (first | (with_reducible refine bset ?_ ?_) | (with_reducible exact Below.refl _ _) | (with_reducible assumption) | (with_reducible refine bdrewN ?_ _) | (with_reducible refine bdrew ?_) | (with_reducible refine balloc0 ?_) | (with_reducible refine balloc ?_ ?_) | (with_reducible apply btrans0; rotate_left; with_reducible assumption) | (with_reducible apply btrans; rotate_left; with_reducible assumption) | exact Below.refl _ _ | assumption | (apply btrans0; rotate_left; assumption) | (apply btrans; rotate_left; assumption) | (simp; done) | omega | (simp; omega)))⟩
          rw [← HE.out]
          unfold repE
          rw [HQ.out]
          try simp only [Bool.true_eq_false, false_or, true_or, if_true, Bool.false_eq_true]
          have K' := K.out
          have N' := N.out
          (try simp only [Bool.not_eq_true', Bool.not_eq_false', decide_eq_true_eq, decide_eq_false_iff_not, beq_iff_eq, beq_eq_false_iff_ne, bne_iff_ne, bne_eq_false_iff_eq, ne_eq, Bool.and_eq_true, Bool.or_eq_true, Bool.and_eq_false_imp, Bool.or_eq_false_iff] at *)
          repeat' (first | omega | split)
    · have n1 : (r.reason != 0) = true := by rw [bne_iff_ne]; exact n
      have n2 : (r.reason == 0) = false := beq_eq_false_iff_ne.2 n
      have N := Lib.hid n
      clear n
      cases Q
      all_goals
        go_enter Tryd.func21, Tryd.ntmps21
        go_wp2_with (go_at_call 55; refine (rvid_any _ _ _ _ _ _).mono ?_; rw [HQ.out]; rintro e w1 ⟨rfl, hb1⟩; obtain ⟨k1, f1⟩ := bcell hb1; have z1 : w.heap.size < w1.heap.size := (by have := hb1.size; simp at this; omega))
        all_goals
          go_ret
          refine ⟨ret_int ?_, (by repeat' (first | (with_reducible refine bset ?_ ?_) | (with_reducible exact Below.refl _ _) | (with_reducible assumption) | (with_reducible refine bdrewN ?_ _) | (with_reducible refine bdrew ?_) | (with_reducible refine balloc0 ?_) | (with_reducible refine balloc ?_ ?_) | (with_reducible apply btrans0; rotate_left; with_reducible assumption) | (with_reducible apply btrans; rotate_left; with_reducible assumption) | exact Below.refl _ _ | assumption | (apply btrans0; rotate_left; assumption) | (apply btrans; rotate_left; assumption) | (simp; done) | omega | (simp; omega)))⟩
          rw [← HE.out]
          unfold repE
          rw [HQ.out]
          try simp only [Bool.true_eq_false, false_or, true_or, if_true, Bool.false_eq_true]
          have K' := K.out
          have N' := N.out
          (try simp only [Bool.not_eq_true', Bool.not_eq_false', decide_eq_true_eq, decide_eq_false_iff_not, beq_iff_eq, beq_eq_false_iff_ne, bne_iff_ne, bne_eq_false_iff_eq, ne_eq, Bool.and_eq_true, Bool.or_eq_true, Bool.and_eq_false_imp, Bool.or_eq_false_iff] at *)
          repeat' (first | omega | split)
end Go.Proofs.YtcmkpnjbnjbegaaDoor
