/- The plain law of the orders of ids and of bundles. -/
import Derived.Test.YthedoidpapodgaaTg
import Derived.Test.YthedoidpapodgaaTm
set_option linter.unusedVariables false
set_option linter.unusedSimpArgs false
namespace Go.Proofs.Ythedoidpapodgaa
open Go Go.RowKit

theorem cmpI_neg (a b : Int) : cmpI b a = -cmpI a b := by unfold cmpI; split <;> split <;> (try split) <;> omega
theorem cmpI_swap (a b : Int) : cmpI b a = cmpI (-a) (-b) := by unfold cmpI; split <;> split <;> (try split) <;> (try split) <;> omega
theorem cmpL_neg : ∀ (l m : List Int), cmpL m l = -cmpL l m
  | [], [] => rfl
  | [], _ :: _ => rfl
  | _ :: _, [] => rfl
  | a :: l, b :: m => by
    rw [cmpL, cmpL, cmpI_neg a b, cmpL_neg l m]
    by_cases h : cmpI a b = 0
    · rw [if_pos (by omega), if_pos h]
    · rw [if_neg (by omega), if_neg h]
theorem cmpL_self : ∀ (l : List Int), cmpL l l = 0
  | [] => rfl
  | a :: l => by rw [cmpL, if_pos (cmpI_zero.2 rfl)]; exact cmpL_self l
theorem cmpI_lt {a b : Int} : cmpI a b = -1 ↔ a < b := by unfold cmpI; split <;> (try split) <;> omega
theorem cmpL_trans : ∀ (l m k : List Int), cmpL l m = -1 → cmpL m k = -1 → cmpL l k = -1
  | [], [], _, h, _ => by simp [cmpL] at h
  | [], _ :: _, [], _, h => by simp [cmpL] at h
  | [], _ :: _, _ :: _, _, _ => rfl
  | _ :: _, [], _, h, _ => by simp [cmpL] at h
  | _ :: _, _ :: _, [], _, h => by simp [cmpL] at h
  | a :: l, b :: m, c :: k, h1, h2 => by
    rw [cmpL] at h1 h2 ⊢
    by_cases e1 : cmpI a b = 0
    · obtain rfl := cmpI_zero.1 e1
      rw [if_pos e1] at h1
      by_cases e2 : cmpI a c = 0
      · rw [if_pos e2] at h2 ⊢; exact cmpL_trans l m k h1 h2
      · rw [if_neg e2] at h2 ⊢; exact h2
    · rw [if_neg e1] at h1
      by_cases e2 : cmpI b c = 0
      · obtain rfl := cmpI_zero.1 e2
        rw [if_neg e1]; exact h1
      · rw [if_neg e2] at h2
        have h3 : cmpI a c = -1 := by have := cmpI_lt.1 h1; have := cmpI_lt.1 h2; exact cmpI_lt.2 (by omega)
        rw [if_neg (by omega)]; exact h3
def keyL (b : Bun) : List Int := -b.prio :: expS b :: ids b
theorem cmpS_key {a b : Bun} (ha : chkE a = 0) (hb : chkE b = 0) : cmpS a b = cmpL (keyL a) (keyL b) := by
  unfold cmpS keyL
  rw [if_neg (by simp [ha, hb]), cmpI_swap]
  show (if cmpI (-a.prio) (-b.prio) = 0 then (if cmpI (expS a) (expS b) = 0 then (if cmpL (ids a) (ids b) = 0 then 0 else cmpL (ids a) (ids b)) else cmpI (expS a) (expS b)) else cmpI (-a.prio) (-b.prio)) = _
  rw [cmpL, cmpL]
  split
  · split
    · split
      · rename_i h; exact h.symm
      · rfl
    · rfl
  · rfl
theorem key_prio {a b : Bun} (h : cmpL (keyL a) (keyL b) ≠ -1) : a.prio ≤ b.prio := by
  unfold keyL at h
  rw [cmpL] at h
  split at h
  · rename_i h1; have := cmpI_zero.1 h1; omega
  · have := mt (cmpI_lt (a := -a.prio) (b := -b.prio)).2 h
    omega
theorem key_zero {a b : Bun} (h : cmpL (keyL a) (keyL b) = 0) : cmpL (ids a) (ids b) = 0 := by
  unfold keyL at h
  rw [cmpL, cmpL] at h
  split at h
  · split at h
    · exact h
    · rename_i h1; exact absurd h h1
  · rename_i h1; exact absurd h h1
theorem parent_less {s c q o t : Int} (h0 : 0 ≤ o) (ht : 0 < t) : cmpL [s, c, q, 0, 0] [s, c, q, o, t] = -1 := by
  have e : ∀ x : Int, cmpI x x = 0 := fun x => cmpI_zero.2 rfl
  rw [cmpL, if_pos (e s), cmpL, if_pos (e c), cmpL, if_pos (e q), cmpL]
  by_cases h : o = 0
  · subst h
    rw [if_pos (e 0), cmpL, if_neg (by rw [cmpI_lt.2 ht]; decide)]; exact cmpI_lt.2 ht
  · have : cmpI 0 o = -1 := cmpI_lt.2 (by omega)
    rw [if_neg (by rw [this]; decide)]; exact this
theorem neIdI (s c q o t s' c' q' o' t' : Int) (w : World) : Sem.run Try.prog (Go.binOp .neq 23 (.agg #[.int .i64 s, .int .i64 c, .int .i64 q, .int .i64 o, .int .i64 t]) (.agg #[.int .i64 s', .int .i64 c', .int .i64 q', .int .i64 o', .int .i64 t'])) w = .ok (.bool (!eqI5 s c q o t s' c' q' o' t')) w := by
  go_simp
  unfold eqI5
  by_cases h1 : s = s' <;> by_cases h2 : c = c' <;> by_cases h3 : q = q' <;> by_cases h4 : o = o' <;> by_cases h5 : t = t' <;> simp [h1, h2, h3, h4, h5]
section
variable {P : Program} {Q : Exit → Act → World → Prop} {S : World → Prop} {kd : List Nat}
theorem plan_skipK {l rl : List Oper} {i : Nat} {r : List Nat} {o : Oper} {a : Act} {w : World} (hd : l.drop i = o :: rl) (hk : kd.getD i 2 = 2) (hw : Region.wanted o (yielded l.toArray a.tmps) = false)
    (hS : S w) (h : wpPlan P l.toArray Q S kd r (a.put o.dst undef) w) : wpPlan P l.toArray Q S kd (i :: r) a w := by
  have ho := drop_get hd
  unfold wpPlan
  rw [ho]
  simp only
  rw [if_neg (by omega), if_pos hk]
  unfold wpOp
  simp only [ho, hw]
  exact ⟨hS, h⟩
theorem plan_skipL {l rl : List Oper} {i : Nat} {r : List Nat} {o : Oper} {a : Act} {w : World} (hd : l.drop i = o :: rl) (hk : kd.getD i 2 = 3) (hw : Region.wanted o (yielded l.toArray a.tmps) = false)
    (h : wpPlan P l.toArray Q S kd r (a.put o.dst undef) w) : wpPlan P l.toArray Q S kd (i :: r) a w := by
  have ho := drop_get hd
  unfold wpPlan
  rw [ho]
  simp only
  rw [if_neg (by omega), if_neg (by omega)]
  unfold wpOp
  simp only [ho, hw]
  exact h
end
def idC (b : Bun) : Array Value := #[.int .i64 b.src, .int .i64 b.crt, .int .i64 b.seq, .int .i64 b.off, .int .i64 b.tot]
end Go.Proofs.Ythedoidpapodgaa
