/- Walks of the bundle's checks (the program's): within, checkId. -/
import Derived.Test.YtibfchdhppdccaaP
import Derived.Test.YtibfchdhppdccaaProg
set_option linter.unusedVariables false
set_option linter.unusedSimpArgs false
namespace Go.Proofs.Ytibfchdhppdccaa
open Go Go.RowKit
attribute [local go_sem] B_getElem B_size B_app B_extract B_get B_toList

theorem quiet_add_same {P : Program} {f : FuncId} {args : Array Value} {w : World} {a n : Nat} {v : Value}
    (h : Calls P f args (w.drewN (a + n)) fun e w' => e = .returned v ∧ w' = w.drewN (a + n)) :
    Calls P f args (w.drewN (a + n)) fun e w'' => e = .returned v ∧ ∃ m, w'' = w.drewN (a + m) :=
  h.mono fun _ _ ⟨he, hm⟩ => ⟨he, n, hm⟩

theorem within_t (n lo hi : Int) (w : World) (h1 : lo ≤ n) (h2 : n ≤ hi) :
    Calls Try.prog 39 #[.int .i64 n, .int .i64 lo, .int .i64 hi] w fun e w' => e = .returned (.bool true) ∧ w' = w := by
  go_enter Try.func39, Try.ntmps39
  go_wp2
  go_ret
  exact ⟨rfl, rfl⟩
theorem within_f (n lo hi : Int) (w : World) (h : n < lo ∨ hi < n) :
    Calls Try.prog 39 #[.int .i64 n, .int .i64 lo, .int .i64 hi] w fun e w' => e = .returned (.bool false) ∧ w' = w := by
  by_cases h1 : n < lo
  · clear h
    go_enter Try.func39, Try.ntmps39
    go_wp2
    go_ret
    first | exact ⟨rfl, rfl⟩ | (refine ⟨?_, rfl⟩; simp; done) | (refine ⟨?_, rfl⟩; simp; omega)
  · have h2 : hi < n := by omega
    clear h
    go_enter Try.func39, Try.ntmps39
    go_wp2
    go_ret
    first | exact ⟨rfl, rfl⟩ | (refine ⟨?_, rfl⟩; simp; done) | (refine ⟨?_, rfl⟩; simp; omega)

theorem idE_of {b : Bun} {n : Int} (h : (idB b = true ∧ n = 0) ∨ (idB b = false ∧ n = 2)) : Ending.returned (.int .i64 n) = Ending.returned (.int .i64 (idE b)) := by
  rcases h with ⟨h, rfl⟩ | ⟨h, rfl⟩ <;> simp [idE, h]

set_option maxHeartbeats 1000000 in
theorem checkId_any (b : Bun) (w : World) :
    Calls Try.prog 37 #[.agg #[.int .i64 b.src, .int .i64 b.crt, .int .i64 b.seq, .int .i64 b.off, .int .i64 b.tot]] w fun r w' => r = .returned (.int .i64 (idE b)) ∧ Below w.heap.size w w' := by
  obtain ⟨E, hE⟩ : ∃ E, idE b = E := ⟨_, rfl⟩
  have HE : Hid (∀ n : Int, ((idB b = true ∧ n = 0) ∨ (idB b = false ∧ n = 2)) → Ending.returned (.int .i64 n) = Ending.returned (.int .i64 E)) := by
    subst hE; exact fun n h => idE_of h
  rw [hE]
  clear hE
  go_enter Try.func37, Try.ntmps37
  go_wp2
  all_goals
    go_ret
    (try simp only [Bool.not_eq_true', Bool.not_eq_false', decide_eq_true_eq, decide_eq_false_iff_not, beq_iff_eq, beq_eq_false_iff_ne, bne_iff_ne, bne_eq_false_iff_eq, ne_eq, Bool.and_eq_true, Bool.or_eq_true, Bool.and_eq_false_imp, Bool.or_eq_false_iff] at *)
    refine ⟨HE.out _ ?_, (by repeat' (first | (with_reducible refine bset ?_ ?_) | (with_reducible exact Below.refl _ _) | (with_reducible assumption) | (with_reducible refine bdrewN ?_ _) | (with_reducible refine bdrew ?_) | (with_reducible refine balloc0 ?_) | (with_reducible refine balloc ?_ ?_) | (with_reducible apply btrans0; rotate_left; with_reducible assumption) | (with_reducible apply btrans; rotate_left; with_reducible assumption) | exact Below.refl _ _ | assumption | (apply btrans0; rotate_left; assumption) | (apply btrans; rotate_left; assumption) | (simp; done) | omega | (simp; omega)))⟩
    first | exact .inl ⟨decide_eq_true (by omega), rfl⟩ | exact .inr ⟨decide_eq_false (by omega), rfl⟩

set_option maxHeartbeats 1000000 in
theorem endpointCheck_any (k n : Int) (w : World) :
    Calls Try.prog 38 #[.agg #[.int .i64 k, .int .i64 n]] w fun r w' => r = .returned (.int .i64 (endE k n)) ∧ Below w.heap.size w w' := by
  obtain ⟨E, hE⟩ : ∃ E, endE k n = E := ⟨_, rfl⟩
  have HE := Lib.hid hE
  rw [hE]
  clear hE
  go_enter Try.func38, Try.ntmps38
  go_wp2
  all_goals
    go_ret
    refine ⟨ret_int ?_, (by repeat' (first | (with_reducible refine bset ?_ ?_) | (with_reducible exact Below.refl _ _) | (with_reducible assumption) | (with_reducible refine bdrewN ?_ _) | (with_reducible refine bdrew ?_) | (with_reducible refine balloc0 ?_) | (with_reducible refine balloc ?_ ?_) | (with_reducible apply btrans0; rotate_left; with_reducible assumption) | (with_reducible apply btrans; rotate_left; with_reducible assumption) | exact Below.refl _ _ | assumption | (apply btrans0; rotate_left; assumption) | (apply btrans; rotate_left; assumption) | (simp; done) | omega | (simp; omega)))⟩
    rw [← HE.out]
    unfold endE
    (try simp only [Bool.not_eq_true', Bool.not_eq_false', decide_eq_true_eq, decide_eq_false_iff_not, beq_iff_eq, beq_eq_false_iff_ne, bne_iff_ne, bne_eq_false_iff_eq, ne_eq, Bool.and_eq_true, Bool.or_eq_true, Bool.and_eq_false_imp, Bool.or_eq_false_iff] at *)
    repeat' (first | omega | split)

set_option maxHeartbeats 1000000 in
theorem blockCheck_any (x : Blk) (w : World) (hl : x.data.length ≤ maxLen) :
    Calls Try.prog 51 #[.agg #[.int .i64 x.kind, .int .i64 x.flags, .string (B x.data)]] w fun r w' => r = .returned (.int .i64 (blkE x)) ∧ Below w.heap.size w w' := by
  obtain ⟨E, hE⟩ : ∃ E, blkE x = E := ⟨_, rfl⟩
  have HE := Lib.hid hE
  rw [hE]
  clear hE
  unfold maxLen at hl
  go_enter Try.func51, Try.ntmps51
  go_wp2
  all_goals
    go_ret
    refine ⟨ret_int ?_, (by repeat' (first | (with_reducible refine bset ?_ ?_) | (with_reducible exact Below.refl _ _) | (with_reducible assumption) | (with_reducible refine bdrewN ?_ _) | (with_reducible refine bdrew ?_) | (with_reducible refine balloc0 ?_) | (with_reducible refine balloc ?_ ?_) | (with_reducible apply btrans0; rotate_left; with_reducible assumption) | (with_reducible apply btrans; rotate_left; with_reducible assumption) | exact Below.refl _ _ | assumption | (apply btrans0; rotate_left; assumption) | (apply btrans; rotate_left; assumption) | (simp; done) | omega | (simp; omega)))⟩
    rw [← HE.out]
    unfold blkE
    (try simp only [Bool.not_eq_true', Bool.not_eq_false', decide_eq_true_eq, decide_eq_false_iff_not, beq_iff_eq, beq_eq_false_iff_ne, bne_iff_ne, bne_eq_false_iff_eq, ne_eq, Bool.and_eq_true, Bool.or_eq_true, Bool.and_eq_false_imp, Bool.or_eq_false_iff] at *)
    repeat' (first | omega | split)

theorem and_flag (f : Int) (h1 : 0 ≤ f) (h2 : f ≤ 127) : (bits .and .i64 f 4 != 0) = hasF f 4 ∧ (bits .and .i64 f 64 != 0) = hasF f 64 ∧ (bits .and .i64 f 2 != 0) = hasF f 2 := by
  obtain ⟨n, rfl⟩ := Int.eq_ofNat_of_zero_le h1
  have h : ∀ n : Fin 128, (bits .and .i64 (n.val : Int) 4 != 0) = hasF (n.val : Int) 4 ∧ (bits .and .i64 (n.val : Int) 64 != 0) = hasF (n.val : Int) 64 ∧ (bits .and .i64 (n.val : Int) 2 != 0) = hasF (n.val : Int) 2 := by decide +kernel
  exact h ⟨n, by omega⟩

set_option maxHeartbeats 1000000 in
theorem checkFlags_any (b : Bun) (u : Value) (w : World) :
    Calls Try.prog 40 #[.agg (bunC b u).toArray] w fun r w' => r = .returned (.int .i64 (flE b)) ∧ Below w.heap.size w w' := by
  obtain ⟨E, hE⟩ : ∃ E, flE b = E := ⟨_, rfl⟩
  have HE := Lib.hid hE
  rw [hE]
  clear hE
  unfold bunC
  by_cases hf : 0 ≤ b.flags ∧ b.flags ≤ 127
  · obtain ⟨h1, h2⟩ := hf
    obtain ⟨a1, a2, a3⟩ := and_flag b.flags h1 h2
    obtain ⟨p, hp⟩ : ∃ p, hasF b.flags 4 = p := ⟨_, rfl⟩
    obtain ⟨q, hq⟩ : ∃ p, hasF b.flags 64 = p := ⟨_, rfl⟩
    obtain ⟨r, hr⟩ : ∃ p, hasF b.flags 2 = p := ⟨_, rfl⟩
    rw [hp] at a1
    rw [hq] at a2
    rw [hr] at a3
    have HP := Lib.hid hp
    have HQ := Lib.hid hq
    have HR := Lib.hid hr
    clear hp hq hr
    go_enter Try.func40, Try.ntmps40
    go_wp2
    all_goals
      go_ret
      refine ⟨ret_int ?_, (by repeat' (first | (with_reducible refine bset ?_ ?_) | (with_reducible exact Below.refl _ _) | (with_reducible assumption) | (with_reducible refine bdrewN ?_ _) | (with_reducible refine bdrew ?_) | (with_reducible refine balloc0 ?_) | (with_reducible refine balloc ?_ ?_) | (with_reducible apply btrans0; rotate_left; with_reducible assumption) | (with_reducible apply btrans; rotate_left; with_reducible assumption) | exact Below.refl _ _ | assumption | (apply btrans0; rotate_left; assumption) | (apply btrans; rotate_left; assumption) | (simp; done) | omega | (simp; omega)))⟩
      rw [← HE.out]
      unfold flE flB
      rw [HP.out, HQ.out, HR.out]
      (try simp only [Bool.not_eq_true', Bool.not_eq_false', decide_eq_true_eq, decide_eq_false_iff_not, beq_iff_eq, beq_eq_false_iff_ne, bne_iff_ne, bne_eq_false_iff_eq, ne_eq, Bool.and_eq_true, Bool.or_eq_true, Bool.and_eq_false_imp, Bool.or_eq_false_iff] at *)
      simp [*]
      try omega
  · have h : E = 1 := by
      rw [← HE.out]; unfold flE flB
      rw [if_neg (by simp; intro h; omega)]
    subst h
    clear HE
    by_cases hf1 : 0 ≤ b.flags
    · have hf2 : 127 < b.flags := by omega
      clear hf
      go_enter Try.func40, Try.ntmps40
      go_wp2
      all_goals
        go_ret
        exact ⟨rfl, (by repeat' (first | (with_reducible refine bset ?_ ?_) | (with_reducible exact Below.refl _ _) | (with_reducible assumption) | (with_reducible refine bdrewN ?_ _) | (with_reducible refine bdrew ?_) | (with_reducible refine balloc0 ?_) | (with_reducible refine balloc ?_ ?_) | (with_reducible apply btrans0; rotate_left; with_reducible assumption) | (with_reducible apply btrans; rotate_left; with_reducible assumption) | exact Below.refl _ _ | assumption | (apply btrans0; rotate_left; assumption) | (apply btrans; rotate_left; assumption) | (simp; done) | omega | (simp; omega)))⟩
    · have hf2 : b.flags < 0 := by omega
      clear hf hf1
      go_enter Try.func40, Try.ntmps40
      go_wp2
      all_goals
        go_ret
        exact ⟨rfl, (by repeat' (first | (with_reducible refine bset ?_ ?_) | (with_reducible exact Below.refl _ _) | (with_reducible assumption) | (with_reducible refine bdrewN ?_ _) | (with_reducible refine bdrew ?_) | (with_reducible refine balloc0 ?_) | (with_reducible refine balloc ?_ ?_) | (with_reducible apply btrans0; rotate_left; with_reducible assumption) | (with_reducible apply btrans; rotate_left; with_reducible assumption) | exact Below.refl _ _ | assumption | (apply btrans0; rotate_left; assumption) | (apply btrans; rotate_left; assumption) | (simp; done) | omega | (simp; omega)))⟩

set_option maxHeartbeats 1000000 in
theorem checkPayload_any (b : Bun) (u : Value) (w : World) (hl : b.payload.length ≤ maxLen) (h : idB b = true) :
    Calls Try.prog 42 #[.agg (bunC b u).toArray] w fun r w' => r = .returned (.int .i64 (payE b)) ∧ Below w.heap.size w w' := by
  have hi : b.tot ≤ 4096 ∧ 0 ≤ b.tot ∧ 0 ≤ b.off ∧ b.off ≤ b.tot := by have := of_decide_eq_true h; omega
  obtain ⟨i1, i2, i3, i4⟩ := hi
  obtain ⟨E, hE⟩ : ∃ E, payE b = E := ⟨_, rfl⟩
  have HE := Lib.hid hE
  rw [hE]
  clear hE h
  unfold bunC
  unfold maxLen at hl
  go_enter Try.func42, Try.ntmps42
  go_wp2
  all_goals
    go_ret
    refine ⟨ret_int ?_, (by repeat' (first | (with_reducible refine bset ?_ ?_) | (with_reducible exact Below.refl _ _) | (with_reducible assumption) | (with_reducible refine bdrewN ?_ _) | (with_reducible refine bdrew ?_) | (with_reducible refine balloc0 ?_) | (with_reducible refine balloc ?_ ?_) | (with_reducible apply btrans0; rotate_left; with_reducible assumption) | (with_reducible apply btrans; rotate_left; with_reducible assumption) | exact Below.refl _ _ | assumption | (apply btrans0; rotate_left; assumption) | (apply btrans; rotate_left; assumption) | (simp; done) | omega | (simp; omega)))⟩
    rw [← HE.out]
    unfold payE
    (try simp only [Bool.not_eq_true', Bool.not_eq_false', decide_eq_true_eq, decide_eq_false_iff_not, beq_iff_eq, beq_eq_false_iff_ne, bne_iff_ne, bne_eq_false_iff_eq, ne_eq, Bool.and_eq_true, Bool.or_eq_true, Bool.and_eq_false_imp, Bool.or_eq_false_iff] at *)
    repeat' (first | omega | split)
end Go.Proofs.Ytibfchdhppdccaa
