/- Chapter 19: joined, check, times, alive, payload. -/
import Derived.Test.YtpkklmkeflddkaaGreatQa
import Derived.Test.YtpkklmkeflddkaaGreatJq
import Derived.BigQuiet
set_option linter.unusedVariables false
set_option linter.unusedSimpArgs false
namespace Go.Proofs.YtpkklmkeflddkaaGreat
open Go Go.RowKit
attribute [local go_sem] B_getElem B_size B_app B_extract B_get B_toList

attribute [local go_sem] bunC
theorem RBuns.below'' {w w' : World} {v : Value} {l : List Bun} (h : RBuns w w.heap.size v l) (k : Below w.heap.size w w') : RBuns w' w'.heap.size v l := h.below k (Nat.le_refl _) k.size
theorem RBlks.below' {w w' : World} {v : Value} {l : List Blk} (h : RBlks w w.heap.size v l) (k : Below w.heap.size w w') : RBlks w' w'.heap.size v l := h.below k (Nat.le_refl _) k.size
def joinedB (b : Bun) : Bool := hasF b.flags 64
theorem chk_flags {b : Bun} (h : chkE b = 0) : 0 ≤ b.flags ∧ b.flags ≤ 127 := by
  have := (chkE_zero h).2.1
  unfold flB at this
  simp only [Bool.and_eq_true, decide_eq_true_eq] at this
  exact this.1.1
set_option maxRecDepth 100000 in
set_option maxHeartbeats 4000000 in
theorem joined_any (b : Bun) (u : Value) (w : World) (h : RBlks w w.heap.size u b.blocks) (hv : chkE b = 0) :
    Calls Tryz.prog 26 #[.agg (bunC b u).toArray] w fun e w' => e = .returned (.bool (joinedB b)) ∧ Below w.heap.size w w' := by
  obtain ⟨f1, f2⟩ := chk_flags hv
  have a1 := (and_flag b.flags f1 f2).2.1
  obtain ⟨ua, uc, rfl, _⟩ := id h
  obtain ⟨J, hJ⟩ : ∃ q, joinedB b = q := ⟨_, rfl⟩
  rw [show hasF b.flags 64 = J from hJ] at a1
  rw [hJ]
  clear h hJ
  go_enter Tryz.func26, Tryz.ntmps26
  simp only [bunC]
  go_wp2
  go_ret
  exact ⟨rfl, (by repeat' (first | with_reducible (first | refine bset ?_ ?_ | exact Below.refl _ _ | assumption | refine bdrewN ?_ _ | refine bdrew ?_ | refine balloc0 ?_ | refine balloc ?_ ?_ | (apply btrans0; rotate_left; assumption) | (apply btrans; rotate_left; assumption)) | exact Below.refl _ _ | assumption | (apply btrans0; rotate_left; assumption) | (apply btrans; rotate_left; assumption) | (simp; done) | omega | (simp; omega)))⟩
def misB (y x : Bun) : Bool := x.src != y.src || (x.dk != y.dk || x.dn != y.dn) || x.prio != y.prio
theorem neEndI (a b c d : Int) (w : World) : Sem.run Tryz.prog (Go.binOp .neq 28 (.agg #[.int .i64 a, .int .i64 b]) (.agg #[.int .i64 c, .int .i64 d])) w = .ok (.bool (a != c || b != d)) w := by
  go_simp
  by_cases h1 : a = c <;> by_cases h2 : b = d <;> simp [h1, h2]
attribute [local go_sem ↓] neEndI
theorem chk1_pred (l : List Bun) (w : World) (hf : ∀ x ∈ l, Fits x) : PredB 41 #[] (fun x => chkE x != 0) w l := by
  refine ⟨fun _ _ => by kernel_rfl, fun x ux W hx hW hub => ?_⟩
  have HF := Lib.hid (hf x hx)
  have HU := Lib.hid hub
  obtain ⟨ua, uc, rfl, _⟩ := id hub
  obtain ⟨E, hE⟩ : ∃ q, chkE x = q := ⟨_, rfl⟩
  have HE := Lib.hid hE
  show Calls Tryz.prog 41 #[.agg (bunC x (.slice ua x.blocks.length uc)).toArray] W fun e W' => e = .returned (.bool (chkE x != 0)) ∧ Below W.heap.size W W'
  rw [hE]
  clear hub hE hx
  go_enter Tryz.func41, Tryz.ntmps41
  simp only [bunC]
  go_wp2_with fail
  refine (check_any x _ _ (HU.out.below' (balloc0 (Below.refl _ _))) HF.out).mono ?_
  rw [HE.out]
  rintro e w1 ⟨rfl, hb1⟩
  go_wp2
  go_ret
  exact ⟨rfl, (by repeat' (first | with_reducible (first | refine bset ?_ ?_ | exact Below.refl _ _ | assumption | refine bdrewN ?_ _ | refine bdrew ?_ | refine balloc0 ?_ | refine balloc ?_ ?_ | (apply btrans0; rotate_left; assumption) | (apply btrans; rotate_left; assumption)) | exact Below.refl _ _ | assumption | (apply btrans0; rotate_left; assumption) | (apply btrans; rotate_left; assumption) | (simp; done) | omega | (simp; omega)))⟩
theorem joined_pred (l : List Bun) (w : World) (hf : ∀ x ∈ l, chkE x = 0) : PredB 26 #[] joinedB w l :=
  ⟨fun _ _ => by kernel_rfl, fun x ux W hx hW hub => joined_any x ux W hub (hf x hx)⟩
set_option maxRecDepth 100000 in
set_option maxHeartbeats 4000000 in
theorem chk2_pred (y : Bun) (r : List Bun) (g : Nat) (t : TypeId) (v : Value) (w : World) (hg : w.heap[g]? = some (.cells #[v] t (0, 0))) (hl : RBuns w w.heap.size v (y :: r)) : PredB 42 #[.pointer (some ⟨g, 0, none⟩)] (misB y) w (y :: r) := by
  have zg : g < w.heap.size := by
    rcases Nat.lt_or_ge g w.heap.size with z | z
    · exact z
    · rw [Array.getElem?_eq_none z] at hg; cases hg
  refine ⟨fun _ _ => by kernel_rfl, fun x ux W hx hW hub => ?_⟩
  obtain ⟨ua, uc, rfl, _⟩ := id hub
  have zW := hW.size
  have zgW : g < W.heap.size := by omega
  have c0 := cellB ((hW.block _ zg).trans hg) 0
  obtain ⟨a, c, rfl, h1, h2, h3, h4⟩ := hl
  obtain ⟨bb, o, rfl, hbn, hcell⟩ := h4 (by simp)
  obtain ⟨uy, hc, huy⟩ := hcell 0 y rfl
  have zb : bb < W.heap.size := by omega
  have q0 := (hW.cell (p := ⟨bb, o + 0 * 12 + 0, none⟩) hbn).trans (hc 0 _ rfl)
  have q5 := (hW.cell (p := ⟨bb, o + 0 * 12 + 5, none⟩) hbn).trans (hc 5 _ rfl)
  have q6 := (hW.cell (p := ⟨bb, o + 0 * 12 + 6, none⟩) hbn).trans (hc 6 _ rfl)
  have q8 := (hW.cell (p := ⟨bb, o + 0 * 12 + 8, none⟩) hbn).trans (hc 8 _ rfl)
  simp only [Nat.zero_mul, Nat.add_zero] at q0 q5 q6 q8
  have hlen : (0 : Int) < ((y :: r).length : Int) := by first | (simp; done) | (simp; omega)
  obtain ⟨n, hn⟩ : ∃ q, (y :: r).length = q := ⟨_, rfl⟩
  rw [hn] at c0 hlen
  obtain ⟨m1, hm1⟩ : ∃ q, (x.src != y.src) = q := ⟨_, rfl⟩
  obtain ⟨m2, hm2⟩ : ∃ q, (x.dk != y.dk || x.dn != y.dn) = q := ⟨_, rfl⟩
  obtain ⟨m3, hm3⟩ : ∃ q, (x.prio != y.prio) = q := ⟨_, rfl⟩
  have hM : misB y x = (m1 || m2 || m3) := by unfold misB; rw [hm1, hm2, hm3]
  show Calls Tryz.prog 42 #[.agg (bunC x (.slice ua x.blocks.length uc)).toArray, .pointer (some ⟨g, 0, none⟩)] W fun e W' => e = .returned (.bool (misB y x)) ∧ Below W.heap.size W W'
  rw [hM]
  clear hub hx hc huy hcell h1 h2 h3 h4 hg hM
  cases m1 with
  | true =>
    go_enter Tryz.func42, Tryz.ntmps42
    simp only [bunC]
    go_wp2
    go_quiet (fail)
    go_wp2
    go_ret
    exact ⟨rfl, (by repeat' (first | with_reducible (first | refine bset ?_ ?_ | exact Below.refl _ _ | assumption | refine bdrewN ?_ _ | refine bdrew ?_ | refine balloc0 ?_ | refine balloc ?_ ?_ | (apply btrans0; rotate_left; assumption) | (apply btrans; rotate_left; assumption)) | exact Below.refl _ _ | assumption | (apply btrans0; rotate_left; assumption) | (apply btrans; rotate_left; assumption) | (simp; done) | omega | (simp; omega)))⟩
  | false =>
    cases m2 with
    | true =>
      go_enter Tryz.func42, Tryz.ntmps42
      simp only [bunC]
      go_wp2
      go_quiet (fail)
      go_wp2
      go_ret
      exact ⟨rfl, (by repeat' (first | with_reducible (first | refine bset ?_ ?_ | exact Below.refl _ _ | assumption | refine bdrewN ?_ _ | refine bdrew ?_ | refine balloc0 ?_ | refine balloc ?_ ?_ | (apply btrans0; rotate_left; assumption) | (apply btrans; rotate_left; assumption)) | exact Below.refl _ _ | assumption | (apply btrans0; rotate_left; assumption) | (apply btrans; rotate_left; assumption) | (simp; done) | omega | (simp; omega)))⟩
    | false =>
      cases m3
      all_goals
        go_enter Tryz.func42, Tryz.ntmps42
        simp only [bunC]
        go_wp2
        go_quiet (fail)
        go_wp2
        go_ret
        exact ⟨rfl, (by repeat' (first | with_reducible (first | refine bset ?_ ?_ | exact Below.refl _ _ | assumption | refine bdrewN ?_ _ | refine bdrew ?_ | refine balloc0 ?_ | refine balloc ?_ ?_ | (apply btrans0; rotate_left; assumption) | (apply btrans; rotate_left; assumption)) | exact Below.refl _ _ | assumption | (apply btrans0; rotate_left; assumption) | (apply btrans; rotate_left; assumption) | (simp; done) | omega | (simp; omega)))⟩
/-- why bundles cannot be joined -/
def chkJ (l : List Bun) : Int := match l with
  | [] => 20
  | y :: r => if (y :: r).any (fun x => chkE x != 0) = true then 1 else if (y :: r).any joinedB = true then 8 else if (y :: r).any (misB y) = true then 10 else 0
theorem any_chk {l : List Bun} (h : l.any (fun x => chkE x != 0) = false) : ∀ x ∈ l, chkE x = 0 := fun x hx => by
  have := List.any_eq_false.1 h x hx
  simpa using this
set_option maxRecDepth 100000 in
set_option maxHeartbeats 4000000 in
theorem checkJ_any (l : List Bun) (v : Value) (w : World) (h : RBuns w w.heap.size v l) (hf : ∀ x ∈ l, Fits x) :
    Calls Tryz.prog 15 #[v] w fun e w' => e = .returned (.int .i64 (chkJ l)) ∧ Below w.heap.size w w' := by
  have HR := Lib.hid h
  have HF := Lib.hid hf
  obtain ⟨a, c, rfl, _⟩ := id h
  clear hf
  cases l with
  | nil =>
    clear h
    have e0 : chkJ [] = 20 := rfl
    rw [e0]
    simp only [List.length_nil]
    go_enter Tryz.func15, Tryz.ntmps15
    go_wp2
    go_ret
    exact ⟨rfl, (by repeat' (first | with_reducible (first | refine bset ?_ ?_ | exact Below.refl _ _ | assumption | refine bdrewN ?_ _ | refine bdrew ?_ | refine balloc0 ?_ | refine balloc ?_ ?_ | (apply btrans0; rotate_left; assumption) | (apply btrans; rotate_left; assumption)) | exact Below.refl _ _ | assumption | (apply btrans0; rotate_left; assumption) | (apply btrans; rotate_left; assumption) | (simp; done) | omega | (simp; omega)))⟩
  | cons y r =>
    obtain ⟨n, hn⟩ : ∃ q, (y :: r).length = q := ⟨_, rfl⟩
    have hn0 : ((n : Int) == 0) = false := by rw [beq_eq_false_iff_ne]; simp only [List.length_cons] at hn; omega
    obtain ⟨s1, h1⟩ : ∃ q, (y :: r).any (fun x => chkE x != 0) = q := ⟨_, rfl⟩
    obtain ⟨s2, h2⟩ : ∃ q, (y :: r).any joinedB = q := ⟨_, rfl⟩
    obtain ⟨s3, h3⟩ : ∃ q, (y :: r).any (misB y) = q := ⟨_, rfl⟩
    have hJ : chkJ (y :: r) = if s1 = true then 1 else if s2 = true then 8 else if s3 = true then 10 else 0 := by show (if (y :: r).any (fun x => chkE x != 0) = true then (1 : Int) else if (y :: r).any joinedB = true then 8 else if (y :: r).any (misB y) = true then 10 else 0) = _; rw [h1, h2, h3]
    rw [hJ]
    have H1 := Lib.hid h1
    have H2 := Lib.hid h2
    have H3 := Lib.hid h3
    rw [hn] at h ⊢
    have HR : Hid (RBuns w w.heap.size (.slice a n c) (y :: r)) := Lib.hid h
    have HN := Lib.hid hn
    clear h h1 h2 h3 hJ hn
    cases s1 with
    | true =>
      rw [if_pos rfl]
      go_enter Tryz.func15, Tryz.ntmps15
      go_wp2_with fail
      refine (contains_PredB (y :: r) _ _ _ _ _ (HR.out.below'' (balloc0 (Below.refl _ _))) (chk1_pred _ _ HF.out)).mono ?_
      rw [H1.out]
      rintro e w1 ⟨rfl, hb1⟩
      have b1 : Below w.heap.size w w1 := btrans0 (balloc0 (Below.refl _ _)) hb1
      have A1 : Hid (w1.heap[w.heap.size]? = some (.cells #[.slice a n c] 22 (0, 0))) := Lib.hid ((hb1.block _ (by simp)).trans heap_new)
      have c1 := fun o => cellB A1.out o
      have z1 : w.heap.size < w1.heap.size := by have := hb1.size; (try simp at this); omega
      go_wp2
      go_ret
      exact ⟨rfl, (by repeat' (first | with_reducible (first | refine bset ?_ ?_ | exact Below.refl _ _ | assumption | refine bdrewN ?_ _ | refine bdrew ?_ | refine balloc0 ?_ | refine balloc ?_ ?_ | (apply btrans0; rotate_left; assumption) | (apply btrans; rotate_left; assumption)) | exact Below.refl _ _ | assumption | (apply btrans0; rotate_left; assumption) | (apply btrans; rotate_left; assumption) | (simp; done) | omega | (simp; omega)))⟩
    | false =>
      rw [if_neg (by simp)]
      cases s2 with
      | true =>
        rw [if_pos rfl]
        go_enter Tryz.func15, Tryz.ntmps15
        go_wp2_with fail
        refine (contains_PredB (y :: r) _ _ _ _ _ (HR.out.below'' (balloc0 (Below.refl _ _))) (chk1_pred _ _ HF.out)).mono ?_
        rw [H1.out]
        rintro e w1 ⟨rfl, hb1⟩
        have b1 : Below w.heap.size w w1 := btrans0 (balloc0 (Below.refl _ _)) hb1
        have A1 : Hid (w1.heap[w.heap.size]? = some (.cells #[.slice a n c] 22 (0, 0))) := Lib.hid ((hb1.block _ (by simp)).trans heap_new)
        have c1 := fun o => cellB A1.out o
        have z1 : w.heap.size < w1.heap.size := by have := hb1.size; (try simp at this); omega
        go_wp2_with fail
        refine (contains_PredB (y :: r) _ _ _ _ _ (HR.out.below'' b1) (joined_pred _ _ (any_chk H1.out))).mono ?_
        rw [H2.out]
        rintro e w2 ⟨rfl, hb2⟩
        have b2 : Below w.heap.size w w2 := btrans0 b1 hb2
        have A2 : Hid (w2.heap[w.heap.size]? = some (.cells #[.slice a n c] 22 (0, 0))) := Lib.hid ((hb2.block _ z1).trans A1.out)
        clear c1
        have c2 := fun o => cellB A2.out o
        have z2 : w.heap.size < w2.heap.size := by have := hb2.size; (try simp at this); omega
        go_wp2
        go_ret
        exact ⟨rfl, (by repeat' (first | with_reducible (first | refine bset ?_ ?_ | exact Below.refl _ _ | assumption | refine bdrewN ?_ _ | refine bdrew ?_ | refine balloc0 ?_ | refine balloc ?_ ?_ | (apply btrans0; rotate_left; assumption) | (apply btrans; rotate_left; assumption)) | exact Below.refl _ _ | assumption | (apply btrans0; rotate_left; assumption) | (apply btrans; rotate_left; assumption) | (simp; done) | omega | (simp; omega)))⟩
      | false =>
        rw [if_neg (by simp)]
        cases s3 with
        | true =>
          rw [if_pos rfl]
          go_enter Tryz.func15, Tryz.ntmps15
          go_wp2_with fail
          refine (contains_PredB (y :: r) _ _ _ _ _ (HR.out.below'' (balloc0 (Below.refl _ _))) (chk1_pred _ _ HF.out)).mono ?_
          rw [H1.out]
          rintro e w1 ⟨rfl, hb1⟩
          have b1 : Below w.heap.size w w1 := btrans0 (balloc0 (Below.refl _ _)) hb1
          have A1 : Hid (w1.heap[w.heap.size]? = some (.cells #[.slice a n c] 22 (0, 0))) := Lib.hid ((hb1.block _ (by simp)).trans heap_new)
          have c1 := fun o => cellB A1.out o
          have z1 : w.heap.size < w1.heap.size := by have := hb1.size; (try simp at this); omega
          go_wp2_with fail
          refine (contains_PredB (y :: r) _ _ _ _ _ (HR.out.below'' b1) (joined_pred _ _ (any_chk H1.out))).mono ?_
          rw [H2.out]
          rintro e w2 ⟨rfl, hb2⟩
          have b2 : Below w.heap.size w w2 := btrans0 b1 hb2
          have A2 : Hid (w2.heap[w.heap.size]? = some (.cells #[.slice a n c] 22 (0, 0))) := Lib.hid ((hb2.block _ z1).trans A1.out)
          clear c1
          have c2 := fun o => cellB A2.out o
          have z2 : w.heap.size < w2.heap.size := by have := hb2.size; (try simp at this); omega
          go_wp2_with fail
          refine (contains_PredB (y :: r) _ _ _ _ _ (HR.out.below'' b2) (chk2_pred y r w.heap.size 22 _ _ A2.out (HR.out.below'' b2))).mono ?_
          rw [H3.out]
          rintro e w3 ⟨rfl, hb3⟩
          have b3 : Below w.heap.size w w3 := btrans0 b2 hb3
          have A3 : Hid (w3.heap[w.heap.size]? = some (.cells #[.slice a n c] 22 (0, 0))) := Lib.hid ((hb3.block _ z2).trans A2.out)
          clear c2
          have c3 := fun o => cellB A3.out o
          have z3 : w.heap.size < w3.heap.size := by have := hb3.size; (try simp at this); omega
          go_wp2
          go_ret
          exact ⟨rfl, (by repeat' (first | with_reducible (first | refine bset ?_ ?_ | exact Below.refl _ _ | assumption | refine bdrewN ?_ _ | refine bdrew ?_ | refine balloc0 ?_ | refine balloc ?_ ?_ | (apply btrans0; rotate_left; assumption) | (apply btrans; rotate_left; assumption)) | exact Below.refl _ _ | assumption | (apply btrans0; rotate_left; assumption) | (apply btrans; rotate_left; assumption) | (simp; done) | omega | (simp; omega)))⟩
        | false =>
          rw [if_neg (by simp)]
          go_enter Tryz.func15, Tryz.ntmps15
          go_wp2_with fail
          refine (contains_PredB (y :: r) _ _ _ _ _ (HR.out.below'' (balloc0 (Below.refl _ _))) (chk1_pred _ _ HF.out)).mono ?_
          rw [H1.out]
          rintro e w1 ⟨rfl, hb1⟩
          have b1 : Below w.heap.size w w1 := btrans0 (balloc0 (Below.refl _ _)) hb1
          have A1 : Hid (w1.heap[w.heap.size]? = some (.cells #[.slice a n c] 22 (0, 0))) := Lib.hid ((hb1.block _ (by simp)).trans heap_new)
          have c1 := fun o => cellB A1.out o
          have z1 : w.heap.size < w1.heap.size := by have := hb1.size; (try simp at this); omega
          go_wp2_with fail
          refine (contains_PredB (y :: r) _ _ _ _ _ (HR.out.below'' b1) (joined_pred _ _ (any_chk H1.out))).mono ?_
          rw [H2.out]
          rintro e w2 ⟨rfl, hb2⟩
          have b2 : Below w.heap.size w w2 := btrans0 b1 hb2
          have A2 : Hid (w2.heap[w.heap.size]? = some (.cells #[.slice a n c] 22 (0, 0))) := Lib.hid ((hb2.block _ z1).trans A1.out)
          clear c1
          have c2 := fun o => cellB A2.out o
          have z2 : w.heap.size < w2.heap.size := by have := hb2.size; (try simp at this); omega
          go_wp2_with fail
          refine (contains_PredB (y :: r) _ _ _ _ _ (HR.out.below'' b2) (chk2_pred y r w.heap.size 22 _ _ A2.out (HR.out.below'' b2))).mono ?_
          rw [H3.out]
          rintro e w3 ⟨rfl, hb3⟩
          have b3 : Below w.heap.size w w3 := btrans0 b2 hb3
          have A3 : Hid (w3.heap[w.heap.size]? = some (.cells #[.slice a n c] 22 (0, 0))) := Lib.hid ((hb3.block _ z2).trans A2.out)
          clear c2
          have c3 := fun o => cellB A3.out o
          have z3 : w.heap.size < w3.heap.size := by have := hb3.size; (try simp at this); omega
          go_wp2
          go_ret
          exact ⟨rfl, (by repeat' (first | with_reducible (first | refine bset ?_ ?_ | exact Below.refl _ _ | assumption | refine bdrewN ?_ _ | refine bdrew ?_ | refine balloc0 ?_ | refine balloc ?_ ?_ | (apply btrans0; rotate_left; assumption) | (apply btrans; rotate_left; assumption)) | exact Below.refl _ _ | assumption | (apply btrans0; rotate_left; assumption) | (apply btrans; rotate_left; assumption) | (simp; done) | omega | (simp; omega)))⟩
end Go.Proofs.YtpkklmkeflddkaaGreat
