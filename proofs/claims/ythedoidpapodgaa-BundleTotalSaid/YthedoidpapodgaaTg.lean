/- Layer 13 (bundle): Compare, the program's and the reference's. -/
import Derived.Test.YthedoidpapodgaaTf
import Derived.Test.YthedoidpapodgaaJb
set_option linter.unusedVariables false
set_option linter.unusedSimpArgs false
namespace Go.Proofs.Ythedoidpapodgaa
open Go Go.RowKit
attribute [local go_sem] B_getElem B_size B_app B_extract B_get B_toList

/-- == between two ids, as one Bool -/
theorem eqIdG (s c q o t s' c' q' o' t' : Int) (w : World) : Sem.run Try.prog (Go.binOp .eql 23 (.agg #[.int .i64 s, .int .i64 c, .int .i64 q, .int .i64 o, .int .i64 t]) (.agg #[.int .i64 s', .int .i64 c', .int .i64 q', .int .i64 o', .int .i64 t'])) w = .ok (.bool (s == s' && c == c' && q == q' && o == o' && t == t')) w := by
  go_simp
  by_cases h1 : s = s' <;> by_cases h2 : c = c' <;> by_cases h3 : q = q' <;> by_cases h4 : o = o' <;> by_cases h5 : t = t' <;> simp [h1, h2, h3, h4, h5]
theorem cmpL_zero5 {s c q o t s' c' q' o' t' : Int} : cmpL [s, c, q, o, t] [s', c', q', o', t'] = 0 ↔ (s == s' && c == c' && q == q' && o == o' && t == t') = true := by
  have e : ∀ {a b : Int} {l m : List Int}, cmpL (a :: l) (b :: m) = 0 ↔ a = b ∧ cmpL l m = 0 := by
    intro a b l m
    rw [cmpL]
    constructor
    · intro h
      split at h
      · rename_i h1; exact ⟨cmpI_zero.1 h1, h⟩
      · rename_i h1; exact absurd h h1
    · rintro ⟨h1, h2⟩; rw [if_pos (cmpI_zero.2 h1)]; exact h2
  rw [e, e, e, e, e]
  simp [cmpL, and_assoc]
theorem cmpI_range (a b : Int) : cmpI a b = -1 ∨ cmpI a b = 0 ∨ cmpI a b = 1 := by unfold cmpI; split <;> (try split) <;> simp
theorem cmpL_range : ∀ (l m : List Int), cmpL l m = -1 ∨ cmpL l m = 0 ∨ cmpL l m = 1
  | [], [] => by simp [cmpL]
  | [], _ :: _ => by simp [cmpL]
  | _ :: _, [] => by simp [cmpL]
  | a :: l, b :: m => by
    rw [cmpL]
    split
    · exact cmpL_range l m
    · exact cmpI_range a b
theorem RBlks.below' {w w' : World} {v : Value} {l : List Blk} (h : RBlks w w.heap.size v l) (k : Below w.heap.size w w') : RBlks w' w'.heap.size v l := h.below k (Nat.le_refl _) k.size

attribute [local go_sem] bunC
set_option maxRecDepth 100000 in
set_option maxHeartbeats 3000000 in
theorem compare_any (a b : Bun) (u v : Value) (w : World) (h : RBlks w w.heap.size u a.blocks) (hf : Fits a) (k : RBlks w w.heap.size v b.blocks) (kf : Fits b) :
    Calls Try.prog 30 #[.agg (bunC a u).toArray, .agg (bunC b v).toArray] w fun e w' => e = .returned (.int .i64 (cmpS a b)) ∧ Below w.heap.size w w' := by
  obtain ⟨E, hE⟩ : ∃ E, chkE a = E := ⟨_, rfl⟩
  obtain ⟨F, hF⟩ : ∃ E, chkE b = E := ⟨_, rfl⟩
  obtain ⟨ua, uc, rfl, _⟩ := id h
  obtain ⟨va, vc, rfl, _⟩ := id k
  have HR := Lib.hid h
  have HF := Lib.hid hf
  have KR := Lib.hid k
  have KF := Lib.hid kf
  have HE := Lib.hid hE
  have HFF := Lib.hid hF
  clear h hf k kf
  by_cases z : E = 0
  case neg =>
    have z' : (E != 0) = true := by simpa using z
    rw [show cmpS a b = 0 from by unfold cmpS; rw [if_pos (.inl (by rw [hE]; exact z))]]
    clear hE z hF
    go_enter Try.func30, Try.ntmps30
    simp only [bunC]
    go_wp2_with fail
    refine (check_any a _ _ (HR.out.below' (by repeat' (first | with_reducible (first | refine bset ?_ ?_ | exact Below.refl _ _ | assumption | refine bdrewN ?_ _ | refine bdrew ?_ | refine balloc0 ?_ | refine balloc ?_ ?_ | (apply btrans0; rotate_left; assumption) | (apply btrans; rotate_left; assumption)) | exact Below.refl _ _ | assumption | (apply btrans0; rotate_left; assumption) | (apply btrans; rotate_left; assumption) | (simp; done) | omega | (simp; omega)))) HF.out).mono ?_
    rintro e w1 ⟨rfl, hb1⟩
    rw [HE.out]
    go_wp2
    go_ret
    exact ⟨rfl, (by repeat' (first | with_reducible (first | refine bset ?_ ?_ | exact Below.refl _ _ | assumption | refine bdrewN ?_ _ | refine bdrew ?_ | refine balloc0 ?_ | refine balloc ?_ ?_ | (apply btrans0; rotate_left; assumption) | (apply btrans; rotate_left; assumption)) | exact Below.refl _ _ | assumption | (apply btrans0; rotate_left; assumption) | (apply btrans; rotate_left; assumption) | (simp; done) | omega | (simp; omega)))⟩
  subst z
  by_cases z : F = 0
  case neg =>
    have z' : (F != 0) = true := by simpa using z
    rw [show cmpS a b = 0 from by unfold cmpS; rw [if_pos (.inr (by rw [hF]; exact z))]]
    clear hE z hF
    go_enter Try.func30, Try.ntmps30
    simp only [bunC]
    go_wp2_with fail
    refine (check_any a _ _ (HR.out.below' (by repeat' (first | with_reducible (first | refine bset ?_ ?_ | exact Below.refl _ _ | assumption | refine bdrewN ?_ _ | refine bdrew ?_ | refine balloc0 ?_ | refine balloc ?_ ?_ | (apply btrans0; rotate_left; assumption) | (apply btrans; rotate_left; assumption)) | exact Below.refl _ _ | assumption | (apply btrans0; rotate_left; assumption) | (apply btrans; rotate_left; assumption) | (simp; done) | omega | (simp; omega)))) HF.out).mono ?_
    rintro e w1 ⟨rfl, hb1⟩
    rw [HE.out]
    have hB1 : Below w.heap.size w w1 := (by repeat' (first | with_reducible (first | refine bset ?_ ?_ | exact Below.refl _ _ | assumption | refine bdrewN ?_ _ | refine bdrew ?_ | refine balloc0 ?_ | refine balloc ?_ ?_ | (apply btrans0; rotate_left; assumption) | (apply btrans; rotate_left; assumption)) | exact Below.refl _ _ | assumption | (apply btrans0; rotate_left; assumption) | (apply btrans; rotate_left; assumption) | (simp; done) | omega | (simp; omega)))
    have GB : w1.heap[w.heap.size + 1]? = some (.cells (bunC b (.slice va b.blocks.length vc)).toArray 28 (0, 0)) := (hb1.block _ (by simp)).trans (heap_new' (by simp))
    have cb := fun o => cellB GB o
    simp only [bunC] at cb
    clear hb1
    go_wp2_with fail
    refine (check_any b _ _ (KR.out.below' hB1) KF.out).mono ?_
    rintro e w2 ⟨rfl, hb2⟩
    rw [HFF.out]
    go_wp2
    go_ret
    exact ⟨rfl, (by repeat' (first | with_reducible (first | refine bset ?_ ?_ | exact Below.refl _ _ | assumption | refine bdrewN ?_ _ | refine bdrew ?_ | refine balloc0 ?_ | refine balloc ?_ ?_ | (apply btrans0; rotate_left; assumption) | (apply btrans; rotate_left; assumption)) | exact Below.refl _ _ | assumption | (apply btrans0; rotate_left; assumption) | (apply btrans; rotate_left; assumption) | (simp; done) | omega | (simp; omega)))⟩
  subst z
  rw [show cmpS a b = orL [cmpI b.prio a.prio, cmpI (expS a) (expS b), cmpL (ids a) (ids b)] from by unfold cmpS; rw [if_neg (by simp [hE, hF])]]
  obtain ⟨c1, hc1⟩ : ∃ c, cmpI b.prio a.prio = c := ⟨_, rfl⟩
  obtain ⟨x, hx⟩ : ∃ c, expS a = c := ⟨_, rfl⟩
  obtain ⟨y, hy⟩ : ∃ c, expS b = c := ⟨_, rfl⟩
  obtain ⟨c2, hc2⟩ : ∃ c, cmpI x y = c := ⟨_, rfl⟩
  obtain ⟨c3, hc3⟩ : ∃ c, cmpL (ids a) (ids b) = c := ⟨_, rfl⟩
  obtain ⟨r, hr⟩ : ∃ c, orL [c1, c2, c3] = c := ⟨_, rfl⟩
  rw [hc1, hx, hy, hc2, hc3, hr]
  have HC1 := Lib.hid hc1
  have HX := Lib.hid hx
  have HY := Lib.hid hy
  have HC2 := Lib.hid hc2
  have HC3 := Lib.hid hc3
  have HRR := Lib.hid hr
  clear hE hF hc1 hx hy hc2 hc3 hr
  go_enter Try.func30, Try.ntmps30
  simp only [bunC]
  go_wp2_with fail
  refine (check_any a _ _ (HR.out.below' (by repeat' (first | with_reducible (first | refine bset ?_ ?_ | exact Below.refl _ _ | assumption | refine bdrewN ?_ _ | refine bdrew ?_ | refine balloc0 ?_ | refine balloc ?_ ?_ | (apply btrans0; rotate_left; assumption) | (apply btrans; rotate_left; assumption)) | exact Below.refl _ _ | assumption | (apply btrans0; rotate_left; assumption) | (apply btrans; rotate_left; assumption) | (simp; done) | omega | (simp; omega)))) HF.out).mono ?_
  rintro e w1 ⟨rfl, hb1⟩
  rw [HE.out]
  have hB1 : Below w.heap.size w w1 := (by repeat' (first | with_reducible (first | refine bset ?_ ?_ | exact Below.refl _ _ | assumption | refine bdrewN ?_ _ | refine bdrew ?_ | refine balloc0 ?_ | refine balloc ?_ ?_ | (apply btrans0; rotate_left; assumption) | (apply btrans; rotate_left; assumption)) | exact Below.refl _ _ | assumption | (apply btrans0; rotate_left; assumption) | (apply btrans; rotate_left; assumption) | (simp; done) | omega | (simp; omega)))
  have z1 : w.heap.size + 1 < w1.heap.size := by have := hb1.size; simp at this; omega
  have GA : w1.heap[w.heap.size]? = some (.cells (bunC a (.slice ua a.blocks.length uc)).toArray 28 (0, 0)) := (hb1.block _ (by simp; omega)).trans ((Below.heap_alloc _ _ _ (by simp)).trans heap_new)
  have GB : w1.heap[w.heap.size + 1]? = some (.cells (bunC b (.slice va b.blocks.length vc)).toArray 28 (0, 0)) := (hb1.block _ (by simp)).trans (heap_new' (by simp))
  have cb := fun o => cellB GB o
  simp only [bunC] at cb
  clear hb1
  go_wp2_with fail
  refine (check_any b _ _ (KR.out.below' hB1) KF.out).mono ?_
  rintro e w2 ⟨rfl, hb2⟩
  rw [HFF.out]
  have z2 : w.heap.size + 1 < w2.heap.size := by have := hb2.size; omega
  have hB2 : Below w.heap.size w w2 := (by repeat' (first | with_reducible (first | refine bset ?_ ?_ | exact Below.refl _ _ | assumption | refine bdrewN ?_ _ | refine bdrew ?_ | refine balloc0 ?_ | refine balloc ?_ ?_ | (apply btrans0; rotate_left; assumption) | (apply btrans; rotate_left; assumption)) | exact Below.refl _ _ | assumption | (apply btrans0; rotate_left; assumption) | (apply btrans; rotate_left; assumption) | (simp; done) | omega | (simp; omega)))
  have GA2 := (hb2.block _ (by omega)).trans GA
  have GB2 := (hb2.block _ z1).trans GB
  have ca := fun o => cellB GA2 o
  have cb := fun o => cellB GB2 o
  clear hb2 GA GB hB1 GA2 GB2
  go_wp2
  refine wp_region_plan (fun V => (∀ o, V.cell? ⟨w.heap.size, o, none⟩ = (bunC a (.slice ua a.blocks.length uc)).toArray[o]?) ∧ (∀ o, V.cell? ⟨w.heap.size + 1, o, none⟩ = (bunC b (.slice va b.blocks.length vc)).toArray[o]?)) [0, 1, 0, 1, 2, 1, 2, 1, 2, 2, 0, 1, 0, 1, 3, 3, 3, 0] [0, 1, 2, 3, 5, 7, 10, 11, 12, 13, 4, 6, 8, 9, 14, 15, 16, 17] (by kernel_rfl) (by kernel_rfl) ?_ ?_
  case refine_1 => exact ⟨ca, cb⟩
  (iterate 10 (refine plan_held rfl (by decide) (by rfl) (fun w1 hS => by (try (have hS := hS rfl; obtain hS := hS; repeat (obtain ⟨_, hS⟩ := hS))); go_simp; rfl) ?_; simp only [Act.put, List.setIfInBounds_toArray, List.set_cons_zero, List.set_cons_succ]))
  (refine plan_keep rfl rfl (by rfl) (fun K hK => ?_); go_simp)
  refine (ccompare_any b.prio a.prio _).mono ?_
  rw [HC1.out]
  rintro e w3 ⟨rfl, rfl⟩
  (refine hK _ _ (by exact ⟨ca, cb⟩) ?_; clear hK K; (try simp only [Act.put, List.setIfInBounds_toArray, List.set_cons_zero, List.set_cons_succ]))
  (refine plan_keep rfl rfl (by rfl) (fun K hK => ?_); go_simp)
  refine (expires_any a _ _ (HR.out.below' (by repeat' (first | with_reducible (first | refine bset ?_ ?_ | exact Below.refl _ _ | assumption | refine bdrewN ?_ _ | refine bdrew ?_ | refine balloc0 ?_ | refine balloc ?_ ?_ | (apply btrans0; rotate_left; assumption) | (apply btrans; rotate_left; assumption)) | exact Below.refl _ _ | assumption | (apply btrans0; rotate_left; assumption) | (apply btrans; rotate_left; assumption) | (simp; done) | omega | (simp; omega)))) HF.out).mono ?_
  rw [HX.out]
  rintro e w4 ⟨rfl, hb4⟩
  have hB4 : Below w.heap.size w w4 := (by repeat' (first | with_reducible (first | refine bset ?_ ?_ | exact Below.refl _ _ | assumption | refine bdrewN ?_ _ | refine bdrew ?_ | refine balloc0 ?_ | refine balloc ?_ ?_ | (apply btrans0; rotate_left; assumption) | (apply btrans; rotate_left; assumption)) | exact Below.refl _ _ | assumption | (apply btrans0; rotate_left; assumption) | (apply btrans; rotate_left; assumption) | (simp; done) | omega | (simp; omega)))
  have l4 : w2.heap.size ≤ w4.heap.size := by have := hb4.size; simpa using this
  have k4 : ∀ g o, g < w2.heap.size → w4.cell? ⟨g, o, none⟩ = w2.cell? ⟨g, o, none⟩ := fun g o hg => hb4.cell (p := ⟨g, o, none⟩) (by simpa using hg)
  (refine hK _ _ (by exact ⟨fun o => (k4 _ _ (by omega)).trans (ca o), fun o => (k4 _ _ (by omega)).trans (cb o)⟩) ?_; clear hK K; (try simp only [Act.put, List.setIfInBounds_toArray, List.set_cons_zero, List.set_cons_succ]))
  (refine plan_keep rfl rfl (by rfl) (fun K hK => ?_); go_simp)
  refine (expires_any b _ _ (KR.out.below' hB4) KF.out).mono ?_
  rw [HY.out]
  rintro e w5 ⟨rfl, hb5⟩
  have hB5 : Below w.heap.size w w5 := (by repeat' (first | with_reducible (first | refine bset ?_ ?_ | exact Below.refl _ _ | assumption | refine bdrewN ?_ _ | refine bdrew ?_ | refine balloc0 ?_ | refine balloc ?_ ?_ | (apply btrans0; rotate_left; assumption) | (apply btrans; rotate_left; assumption)) | exact Below.refl _ _ | assumption | (apply btrans0; rotate_left; assumption) | (apply btrans; rotate_left; assumption) | (simp; done) | omega | (simp; omega)))
  have k5 : ∀ g o, g < w2.heap.size → w5.cell? ⟨g, o, none⟩ = w2.cell? ⟨g, o, none⟩ := fun g o hg => (hb5.cell (p := ⟨g, o, none⟩) (by show g < _; omega)).trans (k4 g o hg)
  (refine hK _ _ (by exact ⟨fun o => (k5 _ _ (by omega)).trans (ca o), fun o => (k5 _ _ (by omega)).trans (cb o)⟩) ?_; clear hK K; (try simp only [Act.put, List.setIfInBounds_toArray, List.set_cons_zero, List.set_cons_succ]))
  (refine plan_keep rfl rfl (by rfl) (fun K hK => ?_); go_simp)
  refine (ccompare_any x y _).mono ?_
  rw [HC2.out]
  rintro e w6 ⟨rfl, rfl⟩
  (refine hK _ _ (by exact ⟨fun o => (k5 _ _ (by omega)).trans (ca o), fun o => (k5 _ _ (by omega)).trans (cb o)⟩) ?_; clear hK K; (try simp only [Act.put, List.setIfInBounds_toArray, List.set_cons_zero, List.set_cons_succ]))
  (refine plan_late rfl rfl (by rfl) (fun K hK => ?_); go_simp)
  refine (compareIds_any a.src a.crt a.seq a.off a.tot b.src b.crt b.seq b.off b.tot _).mono ?_
  rw [show cmpL [a.src, a.crt, a.seq, a.off, a.tot] [b.src, b.crt, b.seq, b.off, b.tot] = c3 from HC3.out]
  rintro e w7 ⟨rfl, hb7⟩
  (refine hK _ _ ?_; clear hK K; (try simp only [Act.put, List.setIfInBounds_toArray, List.set_cons_zero, List.set_cons_succ]))
  (refine plan_late rfl rfl (by rfl) (fun K hK => ?_); go_simp)
  (refine hK _ _ ?_; clear hK K; (try simp only [Act.put, List.setIfInBounds_toArray, List.set_cons_zero, List.set_cons_succ]))
  (refine plan_late rfl rfl (by rfl) (fun K hK => ?_); go_simp)
  refine (or_any [c1, c2, c3] _ _ (RInts.lit (l := [c1, c2, c3]) (t := 3) ?_ ?_ (by simp))).mono ?_
  · exact heap_new
  · simp
  rw [HRR.out]
  rintro e w8 ⟨rfl, rfl⟩
  (refine hK _ _ ?_; clear hK K; (try simp only [Act.put, List.setIfInBounds_toArray, List.set_cons_zero, List.set_cons_succ]))
  (iterate 1 (refine plan_held rfl (by decide) (by rfl) (fun w1 hS => by (try (have hS := hS rfl; obtain hS := hS; repeat (obtain ⟨_, hS⟩ := hS))); go_simp; rfl) ?_; simp only [Act.put, List.setIfInBounds_toArray, List.set_cons_zero, List.set_cons_succ]))
  refine plan_done ?_
  go_wp2
  go_ret
  exact ⟨rfl, (by repeat' (first | with_reducible (first | refine bset ?_ ?_ | exact Below.refl _ _ | assumption | refine bdrewN ?_ _ | refine bdrew ?_ | refine balloc0 ?_ | refine balloc ?_ ?_ | (apply btrans0; rotate_left; assumption) | (apply btrans; rotate_left; assumption)) | exact Below.refl _ _ | assumption | (apply btrans0; rotate_left; assumption) | (apply btrans; rotate_left; assumption) | (simp; done) | omega | (simp; omega)))⟩

def eqI5 (s c q o t s' c' q' o' t' : Int) : Bool := s == s' && c == c' && q == q' && o == o' && t == t'
theorem eqIdI (s c q o t s' c' q' o' t' : Int) (w : World) : Sem.run Try.prog (Go.binOp .eql 23 (.agg #[.int .i64 s, .int .i64 c, .int .i64 q, .int .i64 o, .int .i64 t]) (.agg #[.int .i64 s', .int .i64 c', .int .i64 q', .int .i64 o', .int .i64 t'])) w = .ok (.bool (eqI5 s c q o t s' c' q' o' t')) w := eqIdG s c q o t s' c' q' o' t' w
theorem eqI5_zero {s c q o t s' c' q' o' t' : Int} : eqI5 s c q o t s' c' q' o' t' = decide (cmpL [s, c, q, o, t] [s', c', q', o', t'] = 0) := by
  rw [Bool.eq_iff_iff, decide_eq_true_eq, cmpL_zero5]; rfl
attribute [local go_sem ↓] eqIdI
set_option maxRecDepth 100000 in
set_option maxHeartbeats 4000000 in
theorem rcompare_any (a b : Bun) (u v : Value) (w : World) (h : RBlks w w.heap.size u a.blocks) (hf : Fits a) (k : RBlks w w.heap.size v b.blocks) (kf : Fits b) :
    Calls Try.prog 31 #[.agg (bunC a u).toArray, .agg (bunC b v).toArray] w fun e w' => e = .returned (.int .i64 (cmpS a b)) ∧ Below w.heap.size w w' := by
  obtain ⟨E, hE⟩ : ∃ E, chkE a = E := ⟨_, rfl⟩
  obtain ⟨F, hF⟩ : ∃ E, chkE b = E := ⟨_, rfl⟩
  obtain ⟨ua, uc, rfl, _⟩ := id h
  obtain ⟨va, vc, rfl, _⟩ := id k
  have HR := Lib.hid h
  have HF := Lib.hid hf
  have KR := Lib.hid k
  have KF := Lib.hid kf
  have HE := Lib.hid hE
  have HFF := Lib.hid hF
  clear h hf k kf
  by_cases z : E = 0
  case neg =>
    have z' : (E != 0) = true := by simpa using z
    rw [show cmpS a b = 0 from by unfold cmpS; rw [if_pos (.inl (by rw [hE]; exact z))]]
    clear hE z hF
    go_enter Try.func31, Try.ntmps31
    simp only [bunC]
    go_wp2_with fail
    refine (rcheck_any a _ _ (HR.out.below' (by repeat' (first | with_reducible (first | refine bset ?_ ?_ | exact Below.refl _ _ | assumption | refine bdrewN ?_ _ | refine bdrew ?_ | refine balloc0 ?_ | refine balloc ?_ ?_ | (apply btrans0; rotate_left; assumption) | (apply btrans; rotate_left; assumption)) | exact Below.refl _ _ | assumption | (apply btrans0; rotate_left; assumption) | (apply btrans; rotate_left; assumption) | (simp; done) | omega | (simp; omega)))) HF.out).mono ?_
    rintro e w1 ⟨rfl, hb1⟩
    rw [HE.out]
    go_wp2
    go_ret
    exact ⟨rfl, (by repeat' (first | with_reducible (first | refine bset ?_ ?_ | exact Below.refl _ _ | assumption | refine bdrewN ?_ _ | refine bdrew ?_ | refine balloc0 ?_ | refine balloc ?_ ?_ | (apply btrans0; rotate_left; assumption) | (apply btrans; rotate_left; assumption)) | exact Below.refl _ _ | assumption | (apply btrans0; rotate_left; assumption) | (apply btrans; rotate_left; assumption) | (simp; done) | omega | (simp; omega)))⟩
  subst z
  by_cases z : F = 0
  case neg =>
    have z' : (F != 0) = true := by simpa using z
    rw [show cmpS a b = 0 from by unfold cmpS; rw [if_pos (.inr (by rw [hF]; exact z))]]
    clear hE z hF
    go_enter Try.func31, Try.ntmps31
    simp only [bunC]
    go_wp2_with fail
    refine (rcheck_any a _ _ (HR.out.below' (by repeat' (first | with_reducible (first | refine bset ?_ ?_ | exact Below.refl _ _ | assumption | refine bdrewN ?_ _ | refine bdrew ?_ | refine balloc0 ?_ | refine balloc ?_ ?_ | (apply btrans0; rotate_left; assumption) | (apply btrans; rotate_left; assumption)) | exact Below.refl _ _ | assumption | (apply btrans0; rotate_left; assumption) | (apply btrans; rotate_left; assumption) | (simp; done) | omega | (simp; omega)))) HF.out).mono ?_
    rintro e w1 ⟨rfl, hb1⟩
    rw [HE.out]
    have hB1 : Below w.heap.size w w1 := (by repeat' (first | with_reducible (first | refine bset ?_ ?_ | exact Below.refl _ _ | assumption | refine bdrewN ?_ _ | refine bdrew ?_ | refine balloc0 ?_ | refine balloc ?_ ?_ | (apply btrans0; rotate_left; assumption) | (apply btrans; rotate_left; assumption)) | exact Below.refl _ _ | assumption | (apply btrans0; rotate_left; assumption) | (apply btrans; rotate_left; assumption) | (simp; done) | omega | (simp; omega)))
    have GB : w1.heap[w.heap.size + 1]? = some (.cells (bunC b (.slice va b.blocks.length vc)).toArray 28 (0, 0)) := (hb1.block _ (by simp)).trans (heap_new' (by simp))
    have cb := fun o => cellB GB o
    simp only [bunC] at cb
    clear hb1
    go_wp2_with fail
    refine (rcheck_any b _ _ (KR.out.below' hB1) KF.out).mono ?_
    rintro e w2 ⟨rfl, hb2⟩
    rw [HFF.out]
    go_wp2
    go_ret
    exact ⟨rfl, (by repeat' (first | with_reducible (first | refine bset ?_ ?_ | exact Below.refl _ _ | assumption | refine bdrewN ?_ _ | refine bdrew ?_ | refine balloc0 ?_ | refine balloc ?_ ?_ | (apply btrans0; rotate_left; assumption) | (apply btrans; rotate_left; assumption)) | exact Below.refl _ _ | assumption | (apply btrans0; rotate_left; assumption) | (apply btrans; rotate_left; assumption) | (simp; done) | omega | (simp; omega)))⟩
  subst z
  rw [show cmpS a b = orL [cmpI b.prio a.prio, cmpI (expS a) (expS b), cmpL (ids a) (ids b)] from by unfold cmpS; rw [if_neg (by simp [hE, hF])]]
  obtain ⟨x, hx⟩ : ∃ c, expS a = c := ⟨_, rfl⟩
  obtain ⟨y, hy⟩ : ∃ c, expS b = c := ⟨_, rfl⟩
  obtain ⟨c3, hc3⟩ : ∃ c, cmpL (ids a) (ids b) = c := ⟨_, rfl⟩
  obtain ⟨r, hr⟩ : ∃ c, orL [cmpI b.prio a.prio, cmpI x y, c3] = c := ⟨_, rfl⟩
  have hrg := cmpL_range (ids a) (ids b)
  rw [hc3] at hrg
  rw [hx, hy, hc3, hr]
  have HX := Lib.hid hx
  have HY := Lib.hid hy
  have HC3 := Lib.hid hc3
  have HRR := Lib.hid hr
  have HRG := Lib.hid hrg
  clear hE hF hx hy hc3 hr hrg
  go_enter Try.func31, Try.ntmps31
  simp only [bunC]
  go_wp2_with fail
  refine (rcheck_any a _ _ (HR.out.below' (by repeat' (first | with_reducible (first | refine bset ?_ ?_ | exact Below.refl _ _ | assumption | refine bdrewN ?_ _ | refine bdrew ?_ | refine balloc0 ?_ | refine balloc ?_ ?_ | (apply btrans0; rotate_left; assumption) | (apply btrans; rotate_left; assumption)) | exact Below.refl _ _ | assumption | (apply btrans0; rotate_left; assumption) | (apply btrans; rotate_left; assumption) | (simp; done) | omega | (simp; omega)))) HF.out).mono ?_
  rintro e w1 ⟨rfl, hb1⟩
  rw [HE.out]
  have hB1 : Below w.heap.size w w1 := (by repeat' (first | with_reducible (first | refine bset ?_ ?_ | exact Below.refl _ _ | assumption | refine bdrewN ?_ _ | refine bdrew ?_ | refine balloc0 ?_ | refine balloc ?_ ?_ | (apply btrans0; rotate_left; assumption) | (apply btrans; rotate_left; assumption)) | exact Below.refl _ _ | assumption | (apply btrans0; rotate_left; assumption) | (apply btrans; rotate_left; assumption) | (simp; done) | omega | (simp; omega)))
  have z1 : w.heap.size + 1 < w1.heap.size := by have := hb1.size; simp at this; omega
  have GA : w1.heap[w.heap.size]? = some (.cells (bunC a (.slice ua a.blocks.length uc)).toArray 28 (0, 0)) := (hb1.block _ (by simp; omega)).trans ((Below.heap_alloc _ _ _ (by simp)).trans heap_new)
  have GB : w1.heap[w.heap.size + 1]? = some (.cells (bunC b (.slice va b.blocks.length vc)).toArray 28 (0, 0)) := (hb1.block _ (by simp)).trans (heap_new' (by simp))
  have cb := fun o => cellB GB o
  simp only [bunC] at cb
  clear hb1
  go_wp2_with fail
  refine (rcheck_any b _ _ (KR.out.below' hB1) KF.out).mono ?_
  rintro e w2 ⟨rfl, hb2⟩
  rw [HFF.out]
  have z2 : w.heap.size + 1 < w2.heap.size := by have := hb2.size; omega
  have hB2 : Below w.heap.size w w2 := (by repeat' (first | with_reducible (first | refine bset ?_ ?_ | exact Below.refl _ _ | assumption | refine bdrewN ?_ _ | refine bdrew ?_ | refine balloc0 ?_ | refine balloc ?_ ?_ | (apply btrans0; rotate_left; assumption) | (apply btrans; rotate_left; assumption)) | exact Below.refl _ _ | assumption | (apply btrans0; rotate_left; assumption) | (apply btrans; rotate_left; assumption) | (simp; done) | omega | (simp; omega)))
  have GA2 := (hb2.block _ (by omega)).trans GA
  have GB2 := (hb2.block _ z1).trans GB
  have ca := fun o => cellB GA2 o
  have cb := fun o => cellB GB2 o
  clear hb2 GA GB hB1 GA2 GB2
  go_wp2
  refine wp_region_plan (fun V => (∀ o, V.cell? ⟨w.heap.size, o, none⟩ = (bunC a (.slice ua a.blocks.length uc)).toArray[o]?) ∧ (∀ o, V.cell? ⟨w.heap.size + 1, o, none⟩ = (bunC b (.slice va b.blocks.length vc)).toArray[o]?)) [1, 2, 1, 3, 0, 0] [0, 2, 1, 3, 4, 5] (by kernel_rfl) (by kernel_rfl) ?_ ?_
  case refine_1 => exact ⟨ca, cb⟩
  (iterate 2 (refine plan_held rfl (by decide) (by rfl) (fun w1 hS => by (try (have hS := hS rfl; obtain hS := hS; repeat (obtain ⟨_, hS⟩ := hS))); go_simp; rfl) ?_; simp only [Act.put, List.setIfInBounds_toArray, List.set_cons_zero, List.set_cons_succ]))
  (refine plan_keep rfl rfl (by rfl) (fun K hK => ?_); go_simp)
  refine (rexpires_any a _ _ (HR.out.below' (by repeat' (first | with_reducible (first | refine bset ?_ ?_ | exact Below.refl _ _ | assumption | refine bdrewN ?_ _ | refine bdrew ?_ | refine balloc0 ?_ | refine balloc ?_ ?_ | (apply btrans0; rotate_left; assumption) | (apply btrans; rotate_left; assumption)) | exact Below.refl _ _ | assumption | (apply btrans0; rotate_left; assumption) | (apply btrans; rotate_left; assumption) | (simp; done) | omega | (simp; omega)))) HF.out).mono ?_
  rw [HX.out]
  rintro e w4 ⟨rfl, hb4⟩
  have hB4 : Below w.heap.size w w4 := (by repeat' (first | with_reducible (first | refine bset ?_ ?_ | exact Below.refl _ _ | assumption | refine bdrewN ?_ _ | refine bdrew ?_ | refine balloc0 ?_ | refine balloc ?_ ?_ | (apply btrans0; rotate_left; assumption) | (apply btrans; rotate_left; assumption)) | exact Below.refl _ _ | assumption | (apply btrans0; rotate_left; assumption) | (apply btrans; rotate_left; assumption) | (simp; done) | omega | (simp; omega)))
  have l4 : w2.heap.size ≤ w4.heap.size := by have := hb4.size; simpa using this
  have k4 : ∀ g o, g < w2.heap.size → w4.cell? ⟨g, o, none⟩ = w2.cell? ⟨g, o, none⟩ := fun g o hg => hb4.cell (p := ⟨g, o, none⟩) (by simpa using hg)
  (refine hK _ _ (by exact ⟨fun o => (k4 _ _ (by omega)).trans (ca o), fun o => (k4 _ _ (by omega)).trans (cb o)⟩) ?_; clear hK K; (try simp only [Act.put, List.setIfInBounds_toArray, List.set_cons_zero, List.set_cons_succ]))
  (refine plan_late rfl rfl (by rfl) (fun K hK => ?_); go_simp)
  refine (rexpires_any b _ _ (KR.out.below' hB4) KF.out).mono ?_
  rw [HY.out]
  rintro e w5 ⟨rfl, hb5⟩
  have hB5 : Below w.heap.size w w5 := (by repeat' (first | with_reducible (first | refine bset ?_ ?_ | exact Below.refl _ _ | assumption | refine bdrewN ?_ _ | refine bdrew ?_ | refine balloc0 ?_ | refine balloc ?_ ?_ | (apply btrans0; rotate_left; assumption) | (apply btrans; rotate_left; assumption)) | exact Below.refl _ _ | assumption | (apply btrans0; rotate_left; assumption) | (apply btrans; rotate_left; assumption) | (simp; done) | omega | (simp; omega)))
  have k5 : ∀ g o, g < w2.heap.size → w5.cell? ⟨g, o, none⟩ = w2.cell? ⟨g, o, none⟩ := fun g o hg => (hb5.cell (p := ⟨g, o, none⟩) (by show g < _; omega)).trans (k4 g o hg)
  have ca5 := fun o => (k5 w.heap.size o (by omega)).trans (ca o)
  have cb5 := fun o => (k5 (w.heap.size + 1) o (by omega)).trans (cb o)
  have z5 : w.heap.size + 1 < w5.heap.size := by have := hb5.size; omega
  simp only [bunC] at ca5 cb5
  (refine hK _ _ ?_; clear hK K; (try simp only [Act.put, List.setIfInBounds_toArray, List.set_cons_zero, List.set_cons_succ]))
  (iterate 2 (refine plan_held rfl (by decide) (by rfl) (fun w1 hS => by (try (have hS := hS rfl; obtain hS := hS; repeat (obtain ⟨_, hS⟩ := hS))); go_simp; rfl) ?_; simp only [Act.put, List.setIfInBounds_toArray, List.set_cons_zero, List.set_cons_succ]))
  refine plan_done ?_
  clear k4 k5 ca cb hb4 hb5 hB4 hB2
  rcases Int.lt_trichotomy b.prio a.prio with hp | hp | hp
  · have hR : Hid (r = -1) := Lib.hid (by rw [← HRR.out]; unfold orL cmpI; rw [if_pos hp]; rfl)
    go_wp2
    go_ret
    exact ⟨ret_int hR.out.symm, (by repeat' (first | with_reducible (first | refine bset ?_ ?_ | exact Below.refl _ _ | assumption | refine bdrewN ?_ _ | refine bdrew ?_ | refine balloc0 ?_ | refine balloc ?_ ?_ | (apply btrans0; rotate_left; assumption) | (apply btrans; rotate_left; assumption)) | exact Below.refl _ _ | assumption | (apply btrans0; rotate_left; assumption) | (apply btrans; rotate_left; assumption) | (simp; done) | omega | (simp; omega)))⟩
  · have hp1 : ¬ b.prio < a.prio := by omega
    have hp2 : (a.prio == b.prio) = true := beq_iff_eq.2 hp.symm
    have hc0 : cmpI b.prio a.prio = 0 := cmpI_zero.2 hp
    clear hp
    rcases Int.lt_trichotomy x y with hq | hq | hq
    · have hR : Hid (r = -1) := Lib.hid (by
        rw [← HRR.out, hc0]; unfold orL; rw [if_pos rfl]; unfold orL cmpI; rw [if_pos hq]; rfl)
      clear hc0
      go_wp2
      go_ret
      exact ⟨ret_int hR.out.symm, (by repeat' (first | with_reducible (first | refine bset ?_ ?_ | exact Below.refl _ _ | assumption | refine bdrewN ?_ _ | refine bdrew ?_ | refine balloc0 ?_ | refine balloc ?_ ?_ | (apply btrans0; rotate_left; assumption) | (apply btrans; rotate_left; assumption)) | exact Below.refl _ _ | assumption | (apply btrans0; rotate_left; assumption) | (apply btrans; rotate_left; assumption) | (simp; done) | omega | (simp; omega)))⟩
    · have hq1 : ¬ x < y := by omega
      have hq2 : (x == y) = true := beq_iff_eq.2 hq
      have hR : Hid (r = c3) := Lib.hid (by
        rw [← HRR.out, hc0, cmpI_zero.2 hq]
        show (if c3 = 0 then 0 else c3) = c3
        split <;> omega)
      have hI : eqI5 a.src a.crt a.seq a.off a.tot b.src b.crt b.seq b.off b.tot = decide (c3 = 0) := by rw [eqI5_zero]; rw [show cmpL [a.src, a.crt, a.seq, a.off, a.tot] [b.src, b.crt, b.seq, b.off, b.tot] = c3 from HC3.out]
      clear hq hc0
      rcases HRG.out with rfl | rfl | rfl
      · rw [show decide ((-1 : Int) = 0) = false from rfl] at hI
        go_wp2_with fail
        refine (rless_any a.src a.crt a.seq a.off a.tot b.src b.crt b.seq b.off b.tot _).mono ?_
        rw [show cmpL [a.src, a.crt, a.seq, a.off, a.tot] [b.src, b.crt, b.seq, b.off, b.tot] = -1 from HC3.out]
        rintro e w6 ⟨rfl, hb6⟩
        go_wp2
        go_ret
        exact ⟨ret_int hR.out.symm, (by repeat' (first | with_reducible (first | refine bset ?_ ?_ | exact Below.refl _ _ | assumption | refine bdrewN ?_ _ | refine bdrew ?_ | refine balloc0 ?_ | refine balloc ?_ ?_ | (apply btrans0; rotate_left; assumption) | (apply btrans; rotate_left; assumption)) | exact Below.refl _ _ | assumption | (apply btrans0; rotate_left; assumption) | (apply btrans; rotate_left; assumption) | (simp; done) | omega | (simp; omega)))⟩
      · rw [show decide ((0 : Int) = 0) = true from rfl] at hI
        go_wp2_with fail
        refine (rless_any a.src a.crt a.seq a.off a.tot b.src b.crt b.seq b.off b.tot _).mono ?_
        rw [show cmpL [a.src, a.crt, a.seq, a.off, a.tot] [b.src, b.crt, b.seq, b.off, b.tot] = 0 from HC3.out]
        rintro e w6 ⟨rfl, hb6⟩
        have ca6 := fun o => (hb6.cell (p := ⟨w.heap.size, o, none⟩) (by show w.heap.size < _; omega)).trans (ca5 o)
        have cb6 := fun o => (hb6.cell (p := ⟨w.heap.size + 1, o, none⟩) (by show w.heap.size + 1 < _; omega)).trans (cb5 o)
        go_wp2
        go_ret
        exact ⟨ret_int hR.out.symm, (by repeat' (first | with_reducible (first | refine bset ?_ ?_ | exact Below.refl _ _ | assumption | refine bdrewN ?_ _ | refine bdrew ?_ | refine balloc0 ?_ | refine balloc ?_ ?_ | (apply btrans0; rotate_left; assumption) | (apply btrans; rotate_left; assumption)) | exact Below.refl _ _ | assumption | (apply btrans0; rotate_left; assumption) | (apply btrans; rotate_left; assumption) | (simp; done) | omega | (simp; omega)))⟩
      · rw [show decide ((1 : Int) = 0) = false from rfl] at hI
        go_wp2_with fail
        refine (rless_any a.src a.crt a.seq a.off a.tot b.src b.crt b.seq b.off b.tot _).mono ?_
        rw [show cmpL [a.src, a.crt, a.seq, a.off, a.tot] [b.src, b.crt, b.seq, b.off, b.tot] = 1 from HC3.out]
        rintro e w6 ⟨rfl, hb6⟩
        have ca6 := fun o => (hb6.cell (p := ⟨w.heap.size, o, none⟩) (by show w.heap.size < _; omega)).trans (ca5 o)
        have cb6 := fun o => (hb6.cell (p := ⟨w.heap.size + 1, o, none⟩) (by show w.heap.size + 1 < _; omega)).trans (cb5 o)
        go_wp2
        go_ret
        exact ⟨ret_int hR.out.symm, (by repeat' (first | with_reducible (first | refine bset ?_ ?_ | exact Below.refl _ _ | assumption | refine bdrewN ?_ _ | refine bdrew ?_ | refine balloc0 ?_ | refine balloc ?_ ?_ | (apply btrans0; rotate_left; assumption) | (apply btrans; rotate_left; assumption)) | exact Below.refl _ _ | assumption | (apply btrans0; rotate_left; assumption) | (apply btrans; rotate_left; assumption) | (simp; done) | omega | (simp; omega)))⟩
    · have hq1 : ¬ x < y := by omega
      have hq2 : (x == y) = false := beq_eq_false_iff_ne.2 (by omega)
      have hR : Hid (r = 1) := Lib.hid (by
        rw [← HRR.out, hc0]; unfold orL; rw [if_pos rfl]; unfold orL cmpI; rw [if_neg hq1, if_pos hq]; rfl)
      clear hq hc0
      go_wp2
      go_ret
      exact ⟨ret_int hR.out.symm, (by repeat' (first | with_reducible (first | refine bset ?_ ?_ | exact Below.refl _ _ | assumption | refine bdrewN ?_ _ | refine bdrew ?_ | refine balloc0 ?_ | refine balloc ?_ ?_ | (apply btrans0; rotate_left; assumption) | (apply btrans; rotate_left; assumption)) | exact Below.refl _ _ | assumption | (apply btrans0; rotate_left; assumption) | (apply btrans; rotate_left; assumption) | (simp; done) | omega | (simp; omega)))⟩
  · have hp1 : ¬ b.prio < a.prio := by omega
    have hp2 : (a.prio == b.prio) = false := beq_eq_false_iff_ne.2 (by omega)
    have hR : Hid (r = 1) := Lib.hid (by rw [← HRR.out]; unfold orL cmpI; rw [if_neg hp1, if_pos hp]; rfl)
    clear hp
    go_wp2
    go_ret
    exact ⟨ret_int hR.out.symm, (by repeat' (first | with_reducible (first | refine bset ?_ ?_ | exact Below.refl _ _ | assumption | refine bdrewN ?_ _ | refine bdrew ?_ | refine balloc0 ?_ | refine balloc ?_ ?_ | (apply btrans0; rotate_left; assumption) | (apply btrans; rotate_left; assumption)) | exact Below.refl _ _ | assumption | (apply btrans0; rotate_left; assumption) | (apply btrans; rotate_left; assumption) | (simp; done) | omega | (simp; omega)))⟩
end Go.Proofs.Ythedoidpapodgaa
