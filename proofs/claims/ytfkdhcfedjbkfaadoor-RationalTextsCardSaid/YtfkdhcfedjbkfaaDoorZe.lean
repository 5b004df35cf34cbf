/- Layer 4 (rational), the reference: Parse. -/
import Derived.Test.YtfkdhcfedjbkfaaDoorZd
set_option linter.unusedVariables false
set_option linter.unusedSimpArgs false
namespace Go.Proofs.YtfkdhcfedjbkfaaDoor
open Go Go.RowKit
attribute [local go_sem] B_getElem B_size B_app B_extract B_get B_toList

set_option maxRecDepth 100000 in
set_option maxHeartbeats 8000000 in
theorem rparse_neg (s r : List UInt8) (w : World) (hs : s.length ≤ 1000) (hr : r.length ≤ 1000) (HC : Hid (cutM s = (r, true))) (g0 : s[0]? = some 45) (l0 : 0 < s.length) (g1 : s[0] = 45) (x0 : List.take (s.length - 1) s.tail = r) :
    Calls Tryd.prog 9 #[.string (B s)] w (ParPost s w) := by
  have l1 : (0 : Int) < (s.length : Int) := by omega
  have l2 : (1 : Int) ≤ (s.length : Int) := by omega
  go_enter Tryd.func9, Tryd.ntmps9
  go_wp2_with fail
  refine wp_region_plan (fun _ => True) [0, 0, 0, 0] [0, 1, 2, 3] (by kernel_rfl) (by kernel_rfl) ?_ ?_
  case refine_1 => trivial
  (iterate 4 (refine plan_held rfl (by decide) (by rfl) (fun w1 hS => by (try (have hS := hS rfl; obtain hS := hS; repeat (obtain ⟨_, hS⟩ := hS))); go_simp; rfl) ?_; simp only [Act.put, List.setIfInBounds_toArray, List.set_cons_zero, List.set_cons_succ]))
  refine plan_done ?_
  go_wp2_with fail
  go_loop [6, 7, 8] (fun nm dn i => ∃ k : Nat, k ≤ r.length ∧ i = .int .i64 k ∧ nm = .string (B r) ∧ dn = .string ⟨#[49]⟩ ∧ Hid (∀ c ∈ r.take k, c ≠ 47)) (fun _ _ i => r.length - (intOf i).toNat)
  case atStart => exact ⟨0, Nat.zero_le _, rfl, rfl, rfl, Lib.hid (fun c hc => by simp at hc)⟩
  case round =>
    obtain ⟨k, hk, rfl, rfl, rfl, HN⟩ := hrel
    by_cases hlt : k < r.length
    · obtain ⟨c, hg⟩ : ∃ c, r[k]? = some c := ⟨_, List.getElem?_eq_getElem hlt⟩
      have hg2 : r[k] = c := Option.some.inj ((List.getElem?_eq_getElem hlt).symm.trans hg)
      have k1 : (k : Int) < (r.length : Int) := by omega
      have k0 : (0 : Int) ≤ (k : Int) := by omega
      by_cases a1 : c.toNat = 47
      · have s1 : ((c.toNat : Int) == 47) = true := by rw [beq_iff_eq]; omega
        obtain ⟨NU, hNU⟩ : ∃ q, r.take k = q := ⟨_, rfl⟩
        obtain ⟨DE, hDE⟩ : ∃ q, r.drop (k + 1) = q := ⟨_, rfl⟩
        have HPT : Hid (Parts r NU DE) := Lib.hid (.inr ⟨k, by
          rw [← hNU, ← hDE]
          have e : r.drop k = c :: r.drop (k + 1) := by rw [List.drop_eq_getElem_cons hlt, hg2]
          rw [show (47 : UInt8) = c from (UInt8.toNat_inj.1 a1).symm, ← e, List.take_append_drop], by rw [← hNU]; exact HN.out, by rw [← hNU, List.length_take]; omega⟩)
        have n1 : NU.length ≤ 1000 := by rw [← hNU, List.length_take]; omega
        have n2 : DE.length ≤ 1000 := by rw [← hDE, List.length_drop]; omega
        have w1 : IntKind.i64.wrap ((k : Int) + 1) = (k : Int) + 1 := by rw [IntKind.wrap_i64]; omega
        have w2 : (0 : Int) ≤ (k : Int) + 1 := by omega
        have w3 : ((k : Int) + 1).toNat = k + 1 := by omega
        have x2 : List.take (r.length - (k + 1)) (List.drop (k + 1) r) = DE := by rw [List.take_of_length_le (by rw [List.length_drop]; omega)]; exact hDE
        have x3 : (k : Int) + 1 ≤ (r.length : Int) := by omega
        clear HN a1 hDE
        go_wp2_with fail
        refine wp_region_plan (fun _ => True) [0, 0, 0, 0, 0, 0, 0, 0, 0] [0, 1, 2, 3, 4, 5, 6, 7, 8] (by kernel_rfl) (by kernel_rfl) ?_ ?_
        case refine_1 => trivial
        (iterate 9 (refine plan_held rfl (by decide) (by rfl) (fun w1 hS => by (try (have hS := hS rfl; obtain hS := hS; repeat (obtain ⟨_, hS⟩ := hS))); go_simp; rfl) ?_; simp only [Act.put, List.setIfInBounds_toArray, List.set_cons_zero, List.set_cons_succ]))
        refine plan_done ?_
        clear w1 w2 w3
        go_wp2_with fail
        refine (natural_any NU _ (by first | omega | (simp; done) | (simp; omega))).mono ?_
        unfold NatPost
        rintro e w2 ⟨A, oa, rfl, ha, rfl⟩
        have A0 := ha.1
        have A1 := ha.2.1
        have HNA := Lib.hid ha
        clear ha
        go_wp2_with fail
        refine (natural_any DE _ (by first | omega | (simp; done) | (simp; omega))).mono ?_
        unfold NatPost
        rintro e w2 ⟨b, ob, rfl, hb, rfl⟩
        have B0 := hb.1
        have B1 := hb.2.1
        have HNB := Lib.hid hb
        clear hb
        have hcomp : ∀ n d : Int, chk (n, d) = 0 → txt n d = s → oa = true ∧ ob = true ∧ (-A) = n ∧ b = d := fun n d h ht => by
          obtain ⟨r1, r2, r3, r4⟩ := ref_comp h ht HC.out HPT.out HNA.out HNB.out
          refine ⟨r1, r2, ?_, r4⟩
          first | (rw [if_pos rfl] at r3; omega) | (rw [if_neg (by decide)] at r3; omega)
        have HCP := Lib.hid hcomp
        clear hcomp HNA HNB
        obtain ⟨⟨U, G⟩, hpr⟩ : ∃ q, prtS ((-A), b) = q := ⟨_, rfl⟩
        have HPR := Lib.hid hpr
        cases oa with
        | false =>
          have HE : Hid (∀ n d : Int, chk (n, d) = 0 → txt n d ≠ s) := Lib.hid (fun n d h ht => absurd (HCP.out n d h ht).1 (by decide))
          clear hpr
          go_wp2_with fail
          refine (rprint_any (-A) b _ (by omega) (by omega) (by omega) (by omega)).mono ?_
          unfold PrtPost
          rw [HPR.out]
          rintro e w3 ⟨rfl, hb3⟩
          have hB3 : Below w.heap.size w w3 := (by repeat' (first | (with_reducible refine bset ?_ ?_) | (with_reducible exact Below.refl _ _) | (with_reducible assumption) | (with_reducible refine bdrewN ?_ _) | (with_reducible refine bdrew ?_) | (with_reducible refine balloc0 ?_) | (with_reducible refine balloc ?_ ?_) | (with_reducible apply btrans0; rotate_left; with_reducible assumption) | (with_reducible apply btrans; rotate_left; with_reducible assumption) | exact Below.refl _ _ | assumption | (apply btrans0; rotate_left; assumption) | (apply btrans; rotate_left; assumption) | (simp; done) | omega | (simp; omega)))
          have A3 : w3.heap[w.heap.size]? = some (.cells #[.int .i64 0, .int .i64 0] 23 (0, 0)) := (hb3.block _ (by simp; omega)).trans ((Below.heap_alloc _ _ _ (by simp)).trans heap_new)
          have X3 : w3.heap[w.heap.size + 1]? = some (.cells #[.int .i64 (-A), .int .i64 b] 23 (0, 0)) := (hb3.block _ (by simp)).trans (heap_new' (by simp))
          have ca3 := fun o => cellB A3 o
          have fa3 := fun o => frozenB A3 o
          have cx3 := fun o => cellB X3 o
          have z3 : w.heap.size + 1 < w3.heap.size := by have := hb3.size; simp at this; omega
          have z3a : w.heap.size < w3.heap.size := by omega
          clear A3 X3
          go_wp2_with fail
          refine bodyPost_ret (v := .tuple #[.agg #[.int .i64 0, .int .i64 0], .int .i64 3]) (by simp [results, Tryd.results9, go_sem, World.cell?_setCell_same', ca3, cx3, z3a, z3]) rfl ?_
          unfold ParPost
          exact ⟨0, 0, 3, rfl, .inr ⟨rfl, rfl, HE.out⟩, (by repeat' (first | (with_reducible refine bset ?_ ?_) | (with_reducible exact Below.refl _ _) | (with_reducible assumption) | (with_reducible refine bdrewN ?_ _) | (with_reducible refine bdrew ?_) | (with_reducible refine balloc0 ?_) | (with_reducible refine balloc ?_ ?_) | (with_reducible apply btrans0; rotate_left; with_reducible assumption) | (with_reducible apply btrans; rotate_left; with_reducible assumption) | exact Below.refl _ _ | assumption | (apply btrans0; rotate_left; assumption) | (apply btrans; rotate_left; assumption) | (simp; done) | omega | (simp; omega)))⟩
        | true =>
          cases ob with
          | false =>
            have HE : Hid (∀ n d : Int, chk (n, d) = 0 → txt n d ≠ s) := Lib.hid (fun n d h ht => absurd (HCP.out n d h ht).2.1 (by decide))
            clear hpr
            go_wp2_with fail
            refine (rprint_any (-A) b _ (by omega) (by omega) (by omega) (by omega)).mono ?_
            unfold PrtPost
            rw [HPR.out]
            rintro e w3 ⟨rfl, hb3⟩
            have hB3 : Below w.heap.size w w3 := (by repeat' (first | (with_reducible refine bset ?_ ?_) | (with_reducible exact Below.refl _ _) | (with_reducible assumption) | (with_reducible refine bdrewN ?_ _) | (with_reducible refine bdrew ?_) | (with_reducible refine balloc0 ?_) | (with_reducible refine balloc ?_ ?_) | (with_reducible apply btrans0; rotate_left; with_reducible assumption) | (with_reducible apply btrans; rotate_left; with_reducible assumption) | exact Below.refl _ _ | assumption | (apply btrans0; rotate_left; assumption) | (apply btrans; rotate_left; assumption) | (simp; done) | omega | (simp; omega)))
            have A3 : w3.heap[w.heap.size]? = some (.cells #[.int .i64 0, .int .i64 0] 23 (0, 0)) := (hb3.block _ (by simp; omega)).trans ((Below.heap_alloc _ _ _ (by simp)).trans heap_new)
            have X3 : w3.heap[w.heap.size + 1]? = some (.cells #[.int .i64 (-A), .int .i64 b] 23 (0, 0)) := (hb3.block _ (by simp)).trans (heap_new' (by simp))
            have ca3 := fun o => cellB A3 o
            have fa3 := fun o => frozenB A3 o
            have cx3 := fun o => cellB X3 o
            have z3 : w.heap.size + 1 < w3.heap.size := by have := hb3.size; simp at this; omega
            have z3a : w.heap.size < w3.heap.size := by omega
            clear A3 X3
            go_wp2_with fail
            refine bodyPost_ret (v := .tuple #[.agg #[.int .i64 0, .int .i64 0], .int .i64 3]) (by simp [results, Tryd.results9, go_sem, World.cell?_setCell_same', ca3, cx3, z3a, z3]) rfl ?_
            unfold ParPost
            exact ⟨0, 0, 3, rfl, .inr ⟨rfl, rfl, HE.out⟩, (by repeat' (first | (with_reducible refine bset ?_ ?_) | (with_reducible exact Below.refl _ _) | (with_reducible assumption) | (with_reducible refine bdrewN ?_ _) | (with_reducible refine bdrew ?_) | (with_reducible refine balloc0 ?_) | (with_reducible refine balloc ?_ ?_) | (with_reducible apply btrans0; rotate_left; with_reducible assumption) | (with_reducible apply btrans; rotate_left; with_reducible assumption) | exact Below.refl _ _ | assumption | (apply btrans0; rotate_left; assumption) | (apply btrans; rotate_left; assumption) | (simp; done) | omega | (simp; omega)))⟩
          | true =>
            by_cases g0 : G = 0
            case neg =>
              have g1 : (G != 0) = true := by rw [bne_iff_ne]; exact g0
              have HE : Hid (∀ n d : Int, chk (n, d) = 0 → txt n d ≠ s) := Lib.hid (fun n d h ht => by
                obtain ⟨-, -, r3, r4⟩ := HCP.out n d h ht
                rw [r3, r4, prtS_ok h] at hpr
                exact g0 (by simp only [Prod.mk.injEq] at hpr; exact hpr.2.symm))
              clear g0 hpr
              go_wp2_with fail
              refine (rprint_any (-A) b _ (by omega) (by omega) (by omega) (by omega)).mono ?_
              unfold PrtPost
              rw [HPR.out]
              rintro e w3 ⟨rfl, hb3⟩
              have hB3 : Below w.heap.size w w3 := (by repeat' (first | (with_reducible refine bset ?_ ?_) | (with_reducible exact Below.refl _ _) | (with_reducible assumption) | (with_reducible refine bdrewN ?_ _) | (with_reducible refine bdrew ?_) | (with_reducible refine balloc0 ?_) | (with_reducible refine balloc ?_ ?_) | (with_reducible apply btrans0; rotate_left; with_reducible assumption) | (with_reducible apply btrans; rotate_left; with_reducible assumption) | exact Below.refl _ _ | assumption | (apply btrans0; rotate_left; assumption) | (apply btrans; rotate_left; assumption) | (simp; done) | omega | (simp; omega)))
              have A3 : w3.heap[w.heap.size]? = some (.cells #[.int .i64 0, .int .i64 0] 23 (0, 0)) := (hb3.block _ (by simp; omega)).trans ((Below.heap_alloc _ _ _ (by simp)).trans heap_new)
              have X3 : w3.heap[w.heap.size + 1]? = some (.cells #[.int .i64 (-A), .int .i64 b] 23 (0, 0)) := (hb3.block _ (by simp)).trans (heap_new' (by simp))
              have ca3 := fun o => cellB A3 o
              have fa3 := fun o => frozenB A3 o
              have cx3 := fun o => cellB X3 o
              have z3 : w.heap.size + 1 < w3.heap.size := by have := hb3.size; simp at this; omega
              have z3a : w.heap.size < w3.heap.size := by omega
              clear A3 X3
              go_wp2_with fail
              refine bodyPost_ret (v := .tuple #[.agg #[.int .i64 0, .int .i64 0], .int .i64 3]) (by simp [results, Tryd.results9, go_sem, World.cell?_setCell_same', ca3, cx3, z3a, z3]) rfl ?_
              unfold ParPost
              exact ⟨0, 0, 3, rfl, .inr ⟨rfl, rfl, HE.out⟩, (by repeat' (first | (with_reducible refine bset ?_ ?_) | (with_reducible exact Below.refl _ _) | (with_reducible assumption) | (with_reducible refine bdrewN ?_ _) | (with_reducible refine bdrew ?_) | (with_reducible refine balloc0 ?_) | (with_reducible refine balloc ?_ ?_) | (with_reducible apply btrans0; rotate_left; with_reducible assumption) | (with_reducible apply btrans; rotate_left; with_reducible assumption) | exact Below.refl _ _ | assumption | (apply btrans0; rotate_left; assumption) | (apply btrans; rotate_left; assumption) | (simp; done) | omega | (simp; omega)))⟩
            subst g0
            obtain ⟨q1, q2⟩ := prtS_zero (show (prtS ((-A), b)).2 = 0 by rw [hpr])
            rw [hpr] at q2
            by_cases u0 : U = s
            case neg =>
              have u1 : (U == s) = false := beq_eq_false_iff_ne.2 u0
              have HE : Hid (∀ n d : Int, chk (n, d) = 0 → txt n d ≠ s) := Lib.hid (fun n d h ht => by
                obtain ⟨-, -, r3, r4⟩ := HCP.out n d h ht
                simp only at q2
                rw [r3, r4, ht] at q2
                exact u0 q2)
              clear hpr q1 q2
              go_wp2_with fail
              refine (rprint_any (-A) b _ (by omega) (by omega) (by omega) (by omega)).mono ?_
              unfold PrtPost
              rw [HPR.out]
              rintro e w3 ⟨rfl, hb3⟩
              have hB3 : Below w.heap.size w w3 := (by repeat' (first | (with_reducible refine bset ?_ ?_) | (with_reducible exact Below.refl _ _) | (with_reducible assumption) | (with_reducible refine bdrewN ?_ _) | (with_reducible refine bdrew ?_) | (with_reducible refine balloc0 ?_) | (with_reducible refine balloc ?_ ?_) | (with_reducible apply btrans0; rotate_left; with_reducible assumption) | (with_reducible apply btrans; rotate_left; with_reducible assumption) | exact Below.refl _ _ | assumption | (apply btrans0; rotate_left; assumption) | (apply btrans; rotate_left; assumption) | (simp; done) | omega | (simp; omega)))
              have A3 : w3.heap[w.heap.size]? = some (.cells #[.int .i64 0, .int .i64 0] 23 (0, 0)) := (hb3.block _ (by simp; omega)).trans ((Below.heap_alloc _ _ _ (by simp)).trans heap_new)
              have X3 : w3.heap[w.heap.size + 1]? = some (.cells #[.int .i64 (-A), .int .i64 b] 23 (0, 0)) := (hb3.block _ (by simp)).trans (heap_new' (by simp))
              have ca3 := fun o => cellB A3 o
              have fa3 := fun o => frozenB A3 o
              have cx3 := fun o => cellB X3 o
              have z3 : w.heap.size + 1 < w3.heap.size := by have := hb3.size; simp at this; omega
              have z3a : w.heap.size < w3.heap.size := by omega
              clear A3 X3
              go_wp2_with fail
              refine bodyPost_ret (v := .tuple #[.agg #[.int .i64 0, .int .i64 0], .int .i64 3]) (by simp [results, Tryd.results9, go_sem, World.cell?_setCell_same', ca3, cx3, z3a, z3]) rfl ?_
              unfold ParPost
              exact ⟨0, 0, 3, rfl, .inr ⟨rfl, rfl, HE.out⟩, (by repeat' (first | (with_reducible refine bset ?_ ?_) | (with_reducible exact Below.refl _ _) | (with_reducible assumption) | (with_reducible refine bdrewN ?_ _) | (with_reducible refine bdrew ?_) | (with_reducible refine balloc0 ?_) | (with_reducible refine balloc ?_ ?_) | (with_reducible apply btrans0; rotate_left; with_reducible assumption) | (with_reducible apply btrans; rotate_left; with_reducible assumption) | exact Below.refl _ _ | assumption | (apply btrans0; rotate_left; assumption) | (apply btrans; rotate_left; assumption) | (simp; done) | omega | (simp; omega)))⟩
            have HQ : Hid (chk ((-A), b) = 0 ∧ txt (-A) b = s) := Lib.hid ⟨q1, by rw [← u0]; exact q2.symm⟩
            rw [u0] at HPR
            clear hpr q1 q2 u0
            go_wp2_with fail
            refine (rprint_any (-A) b _ (by omega) (by omega) (by omega) (by omega)).mono ?_
            unfold PrtPost
            rw [HPR.out]
            rintro e w3 ⟨rfl, hb3⟩
            have hB3 : Below w.heap.size w w3 := (by repeat' (first | (with_reducible refine bset ?_ ?_) | (with_reducible exact Below.refl _ _) | (with_reducible assumption) | (with_reducible refine bdrewN ?_ _) | (with_reducible refine bdrew ?_) | (with_reducible refine balloc0 ?_) | (with_reducible refine balloc ?_ ?_) | (with_reducible apply btrans0; rotate_left; with_reducible assumption) | (with_reducible apply btrans; rotate_left; with_reducible assumption) | exact Below.refl _ _ | assumption | (apply btrans0; rotate_left; assumption) | (apply btrans; rotate_left; assumption) | (simp; done) | omega | (simp; omega)))
            have A3 : w3.heap[w.heap.size]? = some (.cells #[.int .i64 0, .int .i64 0] 23 (0, 0)) := (hb3.block _ (by simp; omega)).trans ((Below.heap_alloc _ _ _ (by simp)).trans heap_new)
            have X3 : w3.heap[w.heap.size + 1]? = some (.cells #[.int .i64 (-A), .int .i64 b] 23 (0, 0)) := (hb3.block _ (by simp)).trans (heap_new' (by simp))
            have ca3 := fun o => cellB A3 o
            have fa3 := fun o => frozenB A3 o
            have cx3 := fun o => cellB X3 o
            have z3 : w.heap.size + 1 < w3.heap.size := by have := hb3.size; simp at this; omega
            have z3a : w.heap.size < w3.heap.size := by omega
            clear A3 X3
            go_wp2_with fail
            refine bodyPost_ret (v := .tuple #[.agg #[.int .i64 (-A), .int .i64 b], .int .i64 0]) (by simp [results, Tryd.results9, go_sem, World.cell?_setCell_same', ca3, cx3, z3a, z3]) rfl ?_
            unfold ParPost
            exact ⟨(-A), b, 0, rfl, .inl ⟨rfl, HQ.out.1, HQ.out.2⟩, (by repeat' (first | (with_reducible refine bset ?_ ?_) | (with_reducible exact Below.refl _ _) | (with_reducible assumption) | (with_reducible refine bdrewN ?_ _) | (with_reducible refine bdrew ?_) | (with_reducible refine balloc0 ?_) | (with_reducible refine balloc ?_ ?_) | (with_reducible apply btrans0; rotate_left; with_reducible assumption) | (with_reducible apply btrans; rotate_left; with_reducible assumption) | exact Below.refl _ _ | assumption | (apply btrans0; rotate_left; assumption) | (apply btrans; rotate_left; assumption) | (simp; done) | omega | (simp; omega)))⟩
      · have s1 : ((c.toNat : Int) == 47) = false := by rw [beq_eq_false_iff_ne]; omega
        have HN2 : Hid (∀ c ∈ r.take (k + 1), c ≠ 47) := Lib.hid (by
          rw [List.take_add_one, hg]
          intro d hd
          rcases List.mem_append.1 hd with hd | hd
          · exact HN.out d hd
          · rw [show d = c from by simpa using hd]; intro e; exact a1 (by rw [e]; rfl))
        clear HN a1
        go_wp2_with fail
        go_round
        case rel => exact ⟨k + 1, by omega, by go_num, rfl, rfl, HN2⟩
        case measure => simp [intOf]; omega
    · obtain rfl : k = r.length := by omega
      have k1 : ¬ (r.length : Int) < (r.length : Int) := by omega
      have HPT : Hid (Parts r r [49]) := Lib.hid (.inl ⟨by have := HN.out; rwa [List.take_length] at this, rfl, rfl⟩)
      clear HN
      go_wp2_with fail
      refine (natural_any r _ (by first | omega | (simp; done) | (simp; omega))).mono ?_
      unfold NatPost
      rintro e w2 ⟨A, oa, rfl, ha, rfl⟩
      have A0 := ha.1
      have A1 := ha.2.1
      have HNA := Lib.hid ha
      clear ha
      go_wp2_with fail
      refine (natural_any [49] _ (by first | omega | (simp; done) | (simp; omega))).mono ?_
      unfold NatPost
      rintro e w2 ⟨b, ob, rfl, hb, rfl⟩
      have B0 := hb.1
      have B1 := hb.2.1
      have HNB := Lib.hid hb
      clear hb
      have hcomp : ∀ n d : Int, chk (n, d) = 0 → txt n d = s → oa = true ∧ ob = true ∧ (-A) = n ∧ b = d := fun n d h ht => by
        obtain ⟨r1, r2, r3, r4⟩ := ref_comp h ht HC.out HPT.out HNA.out HNB.out
        refine ⟨r1, r2, ?_, r4⟩
        first | (rw [if_pos rfl] at r3; omega) | (rw [if_neg (by decide)] at r3; omega)
      have HCP := Lib.hid hcomp
      clear hcomp HNA HNB
      obtain ⟨⟨U, G⟩, hpr⟩ : ∃ q, prtS ((-A), b) = q := ⟨_, rfl⟩
      have HPR := Lib.hid hpr
      cases oa with
      | false =>
        have HE : Hid (∀ n d : Int, chk (n, d) = 0 → txt n d ≠ s) := Lib.hid (fun n d h ht => absurd (HCP.out n d h ht).1 (by decide))
        clear hpr
        go_wp2_with fail
        refine (rprint_any (-A) b _ (by omega) (by omega) (by omega) (by omega)).mono ?_
        unfold PrtPost
        rw [HPR.out]
        rintro e w3 ⟨rfl, hb3⟩
        have hB3 : Below w.heap.size w w3 := (by repeat' (first | (with_reducible refine bset ?_ ?_) | (with_reducible exact Below.refl _ _) | (with_reducible assumption) | (with_reducible refine bdrewN ?_ _) | (with_reducible refine bdrew ?_) | (with_reducible refine balloc0 ?_) | (with_reducible refine balloc ?_ ?_) | (with_reducible apply btrans0; rotate_left; with_reducible assumption) | (with_reducible apply btrans; rotate_left; with_reducible assumption) | exact Below.refl _ _ | assumption | (apply btrans0; rotate_left; assumption) | (apply btrans; rotate_left; assumption) | (simp; done) | omega | (simp; omega)))
        have A3 : w3.heap[w.heap.size]? = some (.cells #[.int .i64 0, .int .i64 0] 23 (0, 0)) := (hb3.block _ (by simp; omega)).trans ((Below.heap_alloc _ _ _ (by simp)).trans heap_new)
        have X3 : w3.heap[w.heap.size + 1]? = some (.cells #[.int .i64 (-A), .int .i64 b] 23 (0, 0)) := (hb3.block _ (by simp)).trans (heap_new' (by simp))
        have ca3 := fun o => cellB A3 o
        have fa3 := fun o => frozenB A3 o
        have cx3 := fun o => cellB X3 o
        have z3 : w.heap.size + 1 < w3.heap.size := by have := hb3.size; simp at this; omega
        have z3a : w.heap.size < w3.heap.size := by omega
        clear A3 X3
        go_wp2_with fail
        refine bodyPost_ret (v := .tuple #[.agg #[.int .i64 0, .int .i64 0], .int .i64 3]) (by simp [results, Tryd.results9, go_sem, World.cell?_setCell_same', ca3, cx3, z3a, z3]) rfl ?_
        unfold ParPost
        exact ⟨0, 0, 3, rfl, .inr ⟨rfl, rfl, HE.out⟩, (by repeat' (first | (with_reducible refine bset ?_ ?_) | (with_reducible exact Below.refl _ _) | (with_reducible assumption) | (with_reducible refine bdrewN ?_ _) | (with_reducible refine bdrew ?_) | (with_reducible refine balloc0 ?_) | (with_reducible refine balloc ?_ ?_) | (with_reducible apply btrans0; rotate_left; with_reducible assumption) | (with_reducible apply btrans; rotate_left; with_reducible assumption) | exact Below.refl _ _ | assumption | (apply btrans0; rotate_left; assumption) | (apply btrans; rotate_left; assumption) | (simp; done) | omega | (simp; omega)))⟩
      | true =>
        cases ob with
        | false =>
          have HE : Hid (∀ n d : Int, chk (n, d) = 0 → txt n d ≠ s) := Lib.hid (fun n d h ht => absurd (HCP.out n d h ht).2.1 (by decide))
          clear hpr
          go_wp2_with fail
          refine (rprint_any (-A) b _ (by omega) (by omega) (by omega) (by omega)).mono ?_
          unfold PrtPost
          rw [HPR.out]
          rintro e w3 ⟨rfl, hb3⟩
          have hB3 : Below w.heap.size w w3 := (by repeat' (first | (with_reducible refine bset ?_ ?_) | (with_reducible exact Below.refl _ _) | (with_reducible assumption) | (with_reducible refine bdrewN ?_ _) | (with_reducible refine bdrew ?_) | (with_reducible refine balloc0 ?_) | (with_reducible refine balloc ?_ ?_) | (with_reducible apply btrans0; rotate_left; with_reducible assumption) | (with_reducible apply btrans; rotate_left; with_reducible assumption) | exact Below.refl _ _ | assumption | (apply btrans0; rotate_left; assumption) | (apply btrans; rotate_left; assumption) | (simp; done) | omega | (simp; omega)))
          have A3 : w3.heap[w.heap.size]? = some (.cells #[.int .i64 0, .int .i64 0] 23 (0, 0)) := (hb3.block _ (by simp; omega)).trans ((Below.heap_alloc _ _ _ (by simp)).trans heap_new)
          have X3 : w3.heap[w.heap.size + 1]? = some (.cells #[.int .i64 (-A), .int .i64 b] 23 (0, 0)) := (hb3.block _ (by simp)).trans (heap_new' (by simp))
          have ca3 := fun o => cellB A3 o
          have fa3 := fun o => frozenB A3 o
          have cx3 := fun o => cellB X3 o
          have z3 : w.heap.size + 1 < w3.heap.size := by have := hb3.size; simp at this; omega
          have z3a : w.heap.size < w3.heap.size := by omega
          clear A3 X3
          go_wp2_with fail
          refine bodyPost_ret (v := .tuple #[.agg #[.int .i64 0, .int .i64 0], .int .i64 3]) (by simp [results, Tryd.results9, go_sem, World.cell?_setCell_same', ca3, cx3, z3a, z3]) rfl ?_
          unfold ParPost
          exact ⟨0, 0, 3, rfl, .inr ⟨rfl, rfl, HE.out⟩, (by repeat' (first | (with_reducible refine bset ?_ ?_) | (with_reducible exact Below.refl _ _) | (with_reducible assumption) | (with_reducible refine bdrewN ?_ _) | (with_reducible refine bdrew ?_) | (with_reducible refine balloc0 ?_) | (with_reducible refine balloc ?_ ?_) | (with_reducible apply btrans0; rotate_left; with_reducible assumption) | (with_reducible apply btrans; rotate_left; with_reducible assumption) | exact Below.refl _ _ | assumption | (apply btrans0; rotate_left; assumption) | (apply btrans; rotate_left; assumption) | (simp; done) | omega | (simp; omega)))⟩
        | true =>
          by_cases g0 : G = 0
          case neg =>
            have g1 : (G != 0) = true := by rw [bne_iff_ne]; exact g0
            have HE : Hid (∀ n d : Int, chk (n, d) = 0 → txt n d ≠ s) := Lib.hid (fun n d h ht => by
              obtain ⟨-, -, r3, r4⟩ := HCP.out n d h ht
              rw [r3, r4, prtS_ok h] at hpr
              exact g0 (by simp only [Prod.mk.injEq] at hpr; exact hpr.2.symm))
            clear g0 hpr
            go_wp2_with fail
            refine (rprint_any (-A) b _ (by omega) (by omega) (by omega) (by omega)).mono ?_
            unfold PrtPost
            rw [HPR.out]
            rintro e w3 ⟨rfl, hb3⟩
            have hB3 : Below w.heap.size w w3 := (by repeat' (first | (with_reducible refine bset ?_ ?_) | (with_reducible exact Below.refl _ _) | (with_reducible assumption) | (with_reducible refine bdrewN ?_ _) | (with_reducible refine bdrew ?_) | (with_reducible refine balloc0 ?_) | (with_reducible refine balloc ?_ ?_) | (with_reducible apply btrans0; rotate_left; with_reducible assumption) | (with_reducible apply btrans; rotate_left; with_reducible assumption) | exact Below.refl _ _ | assumption | (apply btrans0; rotate_left; assumption) | (apply btrans; rotate_left; assumption) | (simp; done) | omega | (simp; omega)))
            have A3 : w3.heap[w.heap.size]? = some (.cells #[.int .i64 0, .int .i64 0] 23 (0, 0)) := (hb3.block _ (by simp; omega)).trans ((Below.heap_alloc _ _ _ (by simp)).trans heap_new)
            have X3 : w3.heap[w.heap.size + 1]? = some (.cells #[.int .i64 (-A), .int .i64 b] 23 (0, 0)) := (hb3.block _ (by simp)).trans (heap_new' (by simp))
            have ca3 := fun o => cellB A3 o
            have fa3 := fun o => frozenB A3 o
            have cx3 := fun o => cellB X3 o
            have z3 : w.heap.size + 1 < w3.heap.size := by have := hb3.size; simp at this; omega
            have z3a : w.heap.size < w3.heap.size := by omega
            clear A3 X3
            go_wp2_with fail
            refine bodyPost_ret (v := .tuple #[.agg #[.int .i64 0, .int .i64 0], .int .i64 3]) (by simp [results, Tryd.results9, go_sem, World.cell?_setCell_same', ca3, cx3, z3a, z3]) rfl ?_
            unfold ParPost
            exact ⟨0, 0, 3, rfl, .inr ⟨rfl, rfl, HE.out⟩, (by repeat' (first | (with_reducible refine bset ?_ ?_) | (with_reducible exact Below.refl _ _) | (with_reducible assumption) | (with_reducible refine bdrewN ?_ _) | (with_reducible refine bdrew ?_) | (with_reducible refine balloc0 ?_) | (with_reducible refine balloc ?_ ?_) | (with_reducible apply btrans0; rotate_left; with_reducible assumption) | (with_reducible apply btrans; rotate_left; with_reducible assumption) | exact Below.refl _ _ | assumption | (apply btrans0; rotate_left; assumption) | (apply btrans; rotate_left; assumption) | (simp; done) | omega | (simp; omega)))⟩
          subst g0
          obtain ⟨q1, q2⟩ := prtS_zero (show (prtS ((-A), b)).2 = 0 by rw [hpr])
          rw [hpr] at q2
          by_cases u0 : U = s
          case neg =>
            have u1 : (U == s) = false := beq_eq_false_iff_ne.2 u0
            have HE : Hid (∀ n d : Int, chk (n, d) = 0 → txt n d ≠ s) := Lib.hid (fun n d h ht => by
              obtain ⟨-, -, r3, r4⟩ := HCP.out n d h ht
              simp only at q2
              rw [r3, r4, ht] at q2
              exact u0 q2)
            clear hpr q1 q2
            go_wp2_with fail
            refine (rprint_any (-A) b _ (by omega) (by omega) (by omega) (by omega)).mono ?_
            unfold PrtPost
            rw [HPR.out]
            rintro e w3 ⟨rfl, hb3⟩
            have hB3 : Below w.heap.size w w3 := (by repeat' (first | (with_reducible refine bset ?_ ?_) | (with_reducible exact Below.refl _ _) | (with_reducible assumption) | (with_reducible refine bdrewN ?_ _) | (with_reducible refine bdrew ?_) | (with_reducible refine balloc0 ?_) | (with_reducible refine balloc ?_ ?_) | (with_reducible apply btrans0; rotate_left; with_reducible assumption) | (with_reducible apply btrans; rotate_left; with_reducible assumption) | exact Below.refl _ _ | assumption | (apply btrans0; rotate_left; assumption) | (apply btrans; rotate_left; assumption) | (simp; done) | omega | (simp; omega)))
            have A3 : w3.heap[w.heap.size]? = some (.cells #[.int .i64 0, .int .i64 0] 23 (0, 0)) := (hb3.block _ (by simp; omega)).trans ((Below.heap_alloc _ _ _ (by simp)).trans heap_new)
            have X3 : w3.heap[w.heap.size + 1]? = some (.cells #[.int .i64 (-A), .int .i64 b] 23 (0, 0)) := (hb3.block _ (by simp)).trans (heap_new' (by simp))
            have ca3 := fun o => cellB A3 o
            have fa3 := fun o => frozenB A3 o
            have cx3 := fun o => cellB X3 o
            have z3 : w.heap.size + 1 < w3.heap.size := by have := hb3.size; simp at this; omega
            have z3a : w.heap.size < w3.heap.size := by omega
            clear A3 X3
            go_wp2_with fail
            refine bodyPost_ret (v := .tuple #[.agg #[.int .i64 0, .int .i64 0], .int .i64 3]) (by simp [results, Tryd.results9, go_sem, World.cell?_setCell_same', ca3, cx3, z3a, z3]) rfl ?_
            unfold ParPost
            exact ⟨0, 0, 3, rfl, .inr ⟨rfl, rfl, HE.out⟩, (by repeat' (first | (with_reducible refine bset ?_ ?_) | (with_reducible exact Below.refl _ _) | (with_reducible assumption) | (with_reducible refine bdrewN ?_ _) | (with_reducible refine bdrew ?_) | (with_reducible refine balloc0 ?_) | (with_reducible refine balloc ?_ ?_) | (with_reducible apply btrans0; rotate_left; with_reducible assumption) | (with_reducible apply btrans; rotate_left; with_reducible assumption) | exact Below.refl _ _ | assumption | (apply btrans0; rotate_left; assumption) | (apply btrans; rotate_left; assumption) | (simp; done) | omega | (simp; omega)))⟩
          have HQ : Hid (chk ((-A), b) = 0 ∧ txt (-A) b = s) := Lib.hid ⟨q1, by rw [← u0]; exact q2.symm⟩
          rw [u0] at HPR
          clear hpr q1 q2 u0
          go_wp2_with fail
          refine (rprint_any (-A) b _ (by omega) (by omega) (by omega) (by omega)).mono ?_
          unfold PrtPost
          rw [HPR.out]
          rintro e w3 ⟨rfl, hb3⟩
          have hB3 : Below w.heap.size w w3 := (by repeat' (first | (with_reducible refine bset ?_ ?_) | (with_reducible exact Below.refl _ _) | (with_reducible assumption) | (with_reducible refine bdrewN ?_ _) | (with_reducible refine bdrew ?_) | (with_reducible refine balloc0 ?_) | (with_reducible refine balloc ?_ ?_) | (with_reducible apply btrans0; rotate_left; with_reducible assumption) | (with_reducible apply btrans; rotate_left; with_reducible assumption) | exact Below.refl _ _ | assumption | (apply btrans0; rotate_left; assumption) | (apply btrans; rotate_left; assumption) | (simp; done) | omega | (simp; omega)))
          have A3 : w3.heap[w.heap.size]? = some (.cells #[.int .i64 0, .int .i64 0] 23 (0, 0)) := (hb3.block _ (by simp; omega)).trans ((Below.heap_alloc _ _ _ (by simp)).trans heap_new)
          have X3 : w3.heap[w.heap.size + 1]? = some (.cells #[.int .i64 (-A), .int .i64 b] 23 (0, 0)) := (hb3.block _ (by simp)).trans (heap_new' (by simp))
          have ca3 := fun o => cellB A3 o
          have fa3 := fun o => frozenB A3 o
          have cx3 := fun o => cellB X3 o
          have z3 : w.heap.size + 1 < w3.heap.size := by have := hb3.size; simp at this; omega
          have z3a : w.heap.size < w3.heap.size := by omega
          clear A3 X3
          go_wp2_with fail
          refine bodyPost_ret (v := .tuple #[.agg #[.int .i64 (-A), .int .i64 b], .int .i64 0]) (by simp [results, Tryd.results9, go_sem, World.cell?_setCell_same', ca3, cx3, z3a, z3]) rfl ?_
          unfold ParPost
          exact ⟨(-A), b, 0, rfl, .inl ⟨rfl, HQ.out.1, HQ.out.2⟩, (by repeat' (first | (with_reducible refine bset ?_ ?_) | (with_reducible exact Below.refl _ _) | (with_reducible assumption) | (with_reducible refine bdrewN ?_ _) | (with_reducible refine bdrew ?_) | (with_reducible refine balloc0 ?_) | (with_reducible refine balloc ?_ ?_) | (with_reducible apply btrans0; rotate_left; with_reducible assumption) | (with_reducible apply btrans; rotate_left; with_reducible assumption) | exact Below.refl _ _ | assumption | (apply btrans0; rotate_left; assumption) | (apply btrans; rotate_left; assumption) | (simp; done) | omega | (simp; omega)))⟩
set_option maxRecDepth 100000 in
set_option maxHeartbeats 8000000 in
theorem rparse_nil (s : List UInt8) (w : World) (hs : s.length ≤ 1000) (HC : Hid (cutM s = (s, false))) (l1 : ¬ (0 : Int) < (s.length : Int)) :
    Calls Tryd.prog 9 #[.string (B s)] w (ParPost s w) := by
  go_enter Tryd.func9, Tryd.ntmps9
  go_wp2_with fail
  go_loop [6, 7, 8] (fun nm dn i => ∃ k : Nat, k ≤ s.length ∧ i = .int .i64 k ∧ nm = .string (B s) ∧ dn = .string ⟨#[49]⟩ ∧ Hid (∀ c ∈ s.take k, c ≠ 47)) (fun _ _ i => s.length - (intOf i).toNat)
  case atStart => exact ⟨0, Nat.zero_le _, rfl, rfl, rfl, Lib.hid (fun c hc => by simp at hc)⟩
  case round =>
    obtain ⟨k, hk, rfl, rfl, rfl, HN⟩ := hrel
    by_cases hlt : k < s.length
    · exfalso; omega
    · obtain rfl : k = s.length := by omega
      have k1 : ¬ (s.length : Int) < (s.length : Int) := by omega
      have HPT : Hid (Parts s s [49]) := Lib.hid (.inl ⟨by have := HN.out; rwa [List.take_length] at this, rfl, rfl⟩)
      clear HN
      go_wp2_with fail
      refine (natural_any s _ (by first | omega | (simp; done) | (simp; omega))).mono ?_
      unfold NatPost
      rintro e w2 ⟨A, oa, rfl, ha, rfl⟩
      have A0 := ha.1
      have A1 := ha.2.1
      have HNA := Lib.hid ha
      clear ha
      go_wp2_with fail
      refine (natural_any [49] _ (by first | omega | (simp; done) | (simp; omega))).mono ?_
      unfold NatPost
      rintro e w2 ⟨b, ob, rfl, hb, rfl⟩
      have B0 := hb.1
      have B1 := hb.2.1
      have HNB := Lib.hid hb
      clear hb
      have hcomp : ∀ n d : Int, chk (n, d) = 0 → txt n d = s → oa = true ∧ ob = true ∧ A = n ∧ b = d := fun n d h ht => by
        obtain ⟨r1, r2, r3, r4⟩ := ref_comp h ht HC.out HPT.out HNA.out HNB.out
        refine ⟨r1, r2, ?_, r4⟩
        first | (rw [if_pos rfl] at r3; omega) | (rw [if_neg (by decide)] at r3; omega)
      have HCP := Lib.hid hcomp
      clear hcomp HNA HNB
      obtain ⟨⟨U, G⟩, hpr⟩ : ∃ q, prtS (A, b) = q := ⟨_, rfl⟩
      have HPR := Lib.hid hpr
      cases oa with
      | false =>
        have HE : Hid (∀ n d : Int, chk (n, d) = 0 → txt n d ≠ s) := Lib.hid (fun n d h ht => absurd (HCP.out n d h ht).1 (by decide))
        clear hpr
        go_wp2_with fail
        refine (rprint_any A b _ (by omega) (by omega) (by omega) (by omega)).mono ?_
        unfold PrtPost
        rw [HPR.out]
        rintro e w3 ⟨rfl, hb3⟩
        have hB3 : Below w.heap.size w w3 := (by repeat' (first | (with_reducible refine bset ?_ ?_) | (with_reducible exact Below.refl _ _) | (with_reducible assumption) | (with_reducible refine bdrewN ?_ _) | (with_reducible refine bdrew ?_) | (with_reducible refine balloc0 ?_) | (with_reducible refine balloc ?_ ?_) | (with_reducible apply btrans0; rotate_left; with_reducible assumption) | (with_reducible apply btrans; rotate_left; with_reducible assumption) | exact Below.refl _ _ | assumption | (apply btrans0; rotate_left; assumption) | (apply btrans; rotate_left; assumption) | (simp; done) | omega | (simp; omega)))
        have A3 : w3.heap[w.heap.size]? = some (.cells #[.int .i64 0, .int .i64 0] 23 (0, 0)) := (hb3.block _ (by simp; omega)).trans ((Below.heap_alloc _ _ _ (by simp)).trans heap_new)
        have X3 : w3.heap[w.heap.size + 1]? = some (.cells #[.int .i64 A, .int .i64 b] 23 (0, 0)) := (hb3.block _ (by simp)).trans (heap_new' (by simp))
        have ca3 := fun o => cellB A3 o
        have fa3 := fun o => frozenB A3 o
        have cx3 := fun o => cellB X3 o
        have z3 : w.heap.size + 1 < w3.heap.size := by have := hb3.size; simp at this; omega
        have z3a : w.heap.size < w3.heap.size := by omega
        clear A3 X3
        go_wp2_with fail
        refine bodyPost_ret (v := .tuple #[.agg #[.int .i64 0, .int .i64 0], .int .i64 3]) (by simp [results, Tryd.results9, go_sem, World.cell?_setCell_same', ca3, cx3, z3a, z3]) rfl ?_
        unfold ParPost
        exact ⟨0, 0, 3, rfl, .inr ⟨rfl, rfl, HE.out⟩, (by repeat' (first | (with_reducible refine bset ?_ ?_) | (with_reducible exact Below.refl _ _) | (with_reducible assumption) | (with_reducible refine bdrewN ?_ _) | (with_reducible refine bdrew ?_) | (with_reducible refine balloc0 ?_) | (with_reducible refine balloc ?_ ?_) | (with_reducible apply btrans0; rotate_left; with_reducible assumption) | (with_reducible apply btrans; rotate_left; with_reducible assumption) | exact Below.refl _ _ | assumption | (apply btrans0; rotate_left; assumption) | (apply btrans; rotate_left; assumption) | (simp; done) | omega | (simp; omega)))⟩
      | true =>
        cases ob with
        | false =>
          have HE : Hid (∀ n d : Int, chk (n, d) = 0 → txt n d ≠ s) := Lib.hid (fun n d h ht => absurd (HCP.out n d h ht).2.1 (by decide))
          clear hpr
          go_wp2_with fail
          refine (rprint_any A b _ (by omega) (by omega) (by omega) (by omega)).mono ?_
          unfold PrtPost
          rw [HPR.out]
          rintro e w3 ⟨rfl, hb3⟩
          have hB3 : Below w.heap.size w w3 := (by repeat' (first | (with_reducible refine bset ?_ ?_) | (with_reducible exact Below.refl _ _) | (with_reducible assumption) | (with_reducible refine bdrewN ?_ _) | (with_reducible refine bdrew ?_) | (with_reducible refine balloc0 ?_) | (with_reducible refine balloc ?_ ?_) | (with_reducible apply btrans0; rotate_left; with_reducible assumption) | (with_reducible apply btrans; rotate_left; with_reducible assumption) | exact Below.refl _ _ | assumption | (apply btrans0; rotate_left; assumption) | (apply btrans; rotate_left; assumption) | (simp; done) | omega | (simp; omega)))
          have A3 : w3.heap[w.heap.size]? = some (.cells #[.int .i64 0, .int .i64 0] 23 (0, 0)) := (hb3.block _ (by simp; omega)).trans ((Below.heap_alloc _ _ _ (by simp)).trans heap_new)
          have X3 : w3.heap[w.heap.size + 1]? = some (.cells #[.int .i64 A, .int .i64 b] 23 (0, 0)) := (hb3.block _ (by simp)).trans (heap_new' (by simp))
          have ca3 := fun o => cellB A3 o
          have fa3 := fun o => frozenB A3 o
          have cx3 := fun o => cellB X3 o
          have z3 : w.heap.size + 1 < w3.heap.size := by have := hb3.size; simp at this; omega
          have z3a : w.heap.size < w3.heap.size := by omega
          clear A3 X3
          go_wp2_with fail
          refine bodyPost_ret (v := .tuple #[.agg #[.int .i64 0, .int .i64 0], .int .i64 3]) (by simp [results, Tryd.results9, go_sem, World.cell?_setCell_same', ca3, cx3, z3a, z3]) rfl ?_
          unfold ParPost
          exact ⟨0, 0, 3, rfl, .inr ⟨rfl, rfl, HE.out⟩, (by repeat' (first | (with_reducible refine bset ?_ ?_) | (with_reducible exact Below.refl _ _) | (with_reducible assumption) | (with_reducible refine bdrewN ?_ _) | (with_reducible refine bdrew ?_) | (with_reducible refine balloc0 ?_) | (with_reducible refine balloc ?_ ?_) | (with_reducible apply btrans0; rotate_left; with_reducible assumption) | (with_reducible apply btrans; rotate_left; with_reducible assumption) | exact Below.refl _ _ | assumption | (apply btrans0; rotate_left; assumption) | (apply btrans; rotate_left; assumption) | (simp; done) | omega | (simp; omega)))⟩
        | true =>
          by_cases g0 : G = 0
          case neg =>
            have g1 : (G != 0) = true := by rw [bne_iff_ne]; exact g0
            have HE : Hid (∀ n d : Int, chk (n, d) = 0 → txt n d ≠ s) := Lib.hid (fun n d h ht => by
              obtain ⟨-, -, r3, r4⟩ := HCP.out n d h ht
              rw [r3, r4, prtS_ok h] at hpr
              exact g0 (by simp only [Prod.mk.injEq] at hpr; exact hpr.2.symm))
            clear g0 hpr
            go_wp2_with fail
            refine (rprint_any A b _ (by omega) (by omega) (by omega) (by omega)).mono ?_
            unfold PrtPost
            rw [HPR.out]
            rintro e w3 ⟨rfl, hb3⟩
            have hB3 : Below w.heap.size w w3 := (by repeat' (first | (with_reducible refine bset ?_ ?_) | (with_reducible exact Below.refl _ _) | (with_reducible assumption) | (with_reducible refine bdrewN ?_ _) | (with_reducible refine bdrew ?_) | (with_reducible refine balloc0 ?_) | (with_reducible refine balloc ?_ ?_) | (with_reducible apply btrans0; rotate_left; with_reducible assumption) | (with_reducible apply btrans; rotate_left; with_reducible assumption) | exact Below.refl _ _ | assumption | (apply btrans0; rotate_left; assumption) | (apply btrans; rotate_left; assumption) | (simp; done) | omega | (simp; omega)))
            have A3 : w3.heap[w.heap.size]? = some (.cells #[.int .i64 0, .int .i64 0] 23 (0, 0)) := (hb3.block _ (by simp; omega)).trans ((Below.heap_alloc _ _ _ (by simp)).trans heap_new)
            have X3 : w3.heap[w.heap.size + 1]? = some (.cells #[.int .i64 A, .int .i64 b] 23 (0, 0)) := (hb3.block _ (by simp)).trans (heap_new' (by simp))
            have ca3 := fun o => cellB A3 o
            have fa3 := fun o => frozenB A3 o
            have cx3 := fun o => cellB X3 o
            have z3 : w.heap.size + 1 < w3.heap.size := by have := hb3.size; simp at this; omega
            have z3a : w.heap.size < w3.heap.size := by omega
            clear A3 X3
            go_wp2_with fail
            refine bodyPost_ret (v := .tuple #[.agg #[.int .i64 0, .int .i64 0], .int .i64 3]) (by simp [results, Tryd.results9, go_sem, World.cell?_setCell_same', ca3, cx3, z3a, z3]) rfl ?_
            unfold ParPost
            exact ⟨0, 0, 3, rfl, .inr ⟨rfl, rfl, HE.out⟩, (by repeat' (first | (with_reducible refine bset ?_ ?_) | (with_reducible exact Below.refl _ _) | (with_reducible assumption) | (with_reducible refine bdrewN ?_ _) | (with_reducible refine bdrew ?_) | (with_reducible refine balloc0 ?_) | (with_reducible refine balloc ?_ ?_) | (with_reducible apply btrans0; rotate_left; with_reducible assumption) | (with_reducible apply btrans; rotate_left; with_reducible assumption) | exact Below.refl _ _ | assumption | (apply btrans0; rotate_left; assumption) | (apply btrans; rotate_left; assumption) | (simp; done) | omega | (simp; omega)))⟩
          subst g0
          obtain ⟨q1, q2⟩ := prtS_zero (show (prtS (A, b)).2 = 0 by rw [hpr])
          rw [hpr] at q2
          by_cases u0 : U = s
          case neg =>
            have u1 : (U == s) = false := beq_eq_false_iff_ne.2 u0
            have HE : Hid (∀ n d : Int, chk (n, d) = 0 → txt n d ≠ s) := Lib.hid (fun n d h ht => by
              obtain ⟨-, -, r3, r4⟩ := HCP.out n d h ht
              simp only at q2
              rw [r3, r4, ht] at q2
              exact u0 q2)
            clear hpr q1 q2
            go_wp2_with fail
            refine (rprint_any A b _ (by omega) (by omega) (by omega) (by omega)).mono ?_
            unfold PrtPost
            rw [HPR.out]
            rintro e w3 ⟨rfl, hb3⟩
            have hB3 : Below w.heap.size w w3 := (by repeat' (first | (with_reducible refine bset ?_ ?_) | (with_reducible exact Below.refl _ _) | (with_reducible assumption) | (with_reducible refine bdrewN ?_ _) | (with_reducible refine bdrew ?_) | (with_reducible refine balloc0 ?_) | (with_reducible refine balloc ?_ ?_) | (with_reducible apply btrans0; rotate_left; with_reducible assumption) | (with_reducible apply btrans; rotate_left; with_reducible assumption) | exact Below.refl _ _ | assumption | (apply btrans0; rotate_left; assumption) | (apply btrans; rotate_left; assumption) | (simp; done) | omega | (simp; omega)))
            have A3 : w3.heap[w.heap.size]? = some (.cells #[.int .i64 0, .int .i64 0] 23 (0, 0)) := (hb3.block _ (by simp; omega)).trans ((Below.heap_alloc _ _ _ (by simp)).trans heap_new)
            have X3 : w3.heap[w.heap.size + 1]? = some (.cells #[.int .i64 A, .int .i64 b] 23 (0, 0)) := (hb3.block _ (by simp)).trans (heap_new' (by simp))
            have ca3 := fun o => cellB A3 o
            have fa3 := fun o => frozenB A3 o
            have cx3 := fun o => cellB X3 o
            have z3 : w.heap.size + 1 < w3.heap.size := by have := hb3.size; simp at this; omega
            have z3a : w.heap.size < w3.heap.size := by omega
            clear A3 X3
            go_wp2_with fail
            refine bodyPost_ret (v := .tuple #[.agg #[.int .i64 0, .int .i64 0], .int .i64 3]) (by simp [results, Tryd.results9, go_sem, World.cell?_setCell_same', ca3, cx3, z3a, z3]) rfl ?_
            unfold ParPost
            exact ⟨0, 0, 3, rfl, .inr ⟨rfl, rfl, HE.out⟩, (by repeat' (first | (with_reducible refine bset ?_ ?_) | (with_reducible exact Below.refl _ _) | (with_reducible assumption) | (with_reducible refine bdrewN ?_ _) | (with_reducible refine bdrew ?_) | (with_reducible refine balloc0 ?_) | (with_reducible refine balloc ?_ ?_) | (with_reducible apply btrans0; rotate_left; with_reducible assumption) | (with_reducible apply btrans; rotate_left; with_reducible assumption) | exact Below.refl _ _ | assumption | (apply btrans0; rotate_left; assumption) | (apply btrans; rotate_left; assumption) | (simp; done) | omega | (simp; omega)))⟩
          have HQ : Hid (chk (A, b) = 0 ∧ txt A b = s) := Lib.hid ⟨q1, by rw [← u0]; exact q2.symm⟩
          rw [u0] at HPR
          clear hpr q1 q2 u0
          go_wp2_with fail
          refine (rprint_any A b _ (by omega) (by omega) (by omega) (by omega)).mono ?_
          unfold PrtPost
          rw [HPR.out]
          rintro e w3 ⟨rfl, hb3⟩
          have hB3 : Below w.heap.size w w3 := (by repeat' (first | (with_reducible refine bset ?_ ?_) | (with_reducible exact Below.refl _ _) | (with_reducible assumption) | (with_reducible refine bdrewN ?_ _) | (with_reducible refine bdrew ?_) | (with_reducible refine balloc0 ?_) | (with_reducible refine balloc ?_ ?_) | (with_reducible apply btrans0; rotate_left; with_reducible assumption) | (with_reducible apply btrans; rotate_left; with_reducible assumption) | exact Below.refl _ _ | assumption | (apply btrans0; rotate_left; assumption) | (apply btrans; rotate_left; assumption) | (simp; done) | omega | (simp; omega)))
          have A3 : w3.heap[w.heap.size]? = some (.cells #[.int .i64 0, .int .i64 0] 23 (0, 0)) := (hb3.block _ (by simp; omega)).trans ((Below.heap_alloc _ _ _ (by simp)).trans heap_new)
          have X3 : w3.heap[w.heap.size + 1]? = some (.cells #[.int .i64 A, .int .i64 b] 23 (0, 0)) := (hb3.block _ (by simp)).trans (heap_new' (by simp))
          have ca3 := fun o => cellB A3 o
          have fa3 := fun o => frozenB A3 o
          have cx3 := fun o => cellB X3 o
          have z3 : w.heap.size + 1 < w3.heap.size := by have := hb3.size; simp at this; omega
          have z3a : w.heap.size < w3.heap.size := by omega
          clear A3 X3
          go_wp2_with fail
          refine bodyPost_ret (v := .tuple #[.agg #[.int .i64 A, .int .i64 b], .int .i64 0]) (by simp [results, Tryd.results9, go_sem, World.cell?_setCell_same', ca3, cx3, z3a, z3]) rfl ?_
          unfold ParPost
          exact ⟨A, b, 0, rfl, .inl ⟨rfl, HQ.out.1, HQ.out.2⟩, (by repeat' (first | (with_reducible refine bset ?_ ?_) | (with_reducible exact Below.refl _ _) | (with_reducible assumption) | (with_reducible refine bdrewN ?_ _) | (with_reducible refine bdrew ?_) | (with_reducible refine balloc0 ?_) | (with_reducible refine balloc ?_ ?_) | (with_reducible apply btrans0; rotate_left; with_reducible assumption) | (with_reducible apply btrans; rotate_left; with_reducible assumption) | exact Below.refl _ _ | assumption | (apply btrans0; rotate_left; assumption) | (apply btrans; rotate_left; assumption) | (simp; done) | omega | (simp; omega)))⟩
set_option maxRecDepth 100000 in
set_option maxHeartbeats 8000000 in
theorem rparse_pos (s : List UInt8) (w : World) (hs : s.length ≤ 1000) (c0 : UInt8) (HC : Hid (cutM s = (s, false))) (g0 : s[0]? = some c0) (l0 : 0 < s.length) (g1 : s[0] = c0) (g2 : ((c0.toNat : Int) == 45) = false) :
    Calls Tryd.prog 9 #[.string (B s)] w (ParPost s w) := by
  have l1 : (0 : Int) < (s.length : Int) := by omega
  go_enter Tryd.func9, Tryd.ntmps9
  go_wp2_with fail
  go_loop [6, 7, 8] (fun nm dn i => ∃ k : Nat, k ≤ s.length ∧ i = .int .i64 k ∧ nm = .string (B s) ∧ dn = .string ⟨#[49]⟩ ∧ Hid (∀ c ∈ s.take k, c ≠ 47)) (fun _ _ i => s.length - (intOf i).toNat)
  case atStart => exact ⟨0, Nat.zero_le _, rfl, rfl, rfl, Lib.hid (fun c hc => by simp at hc)⟩
  case round =>
    obtain ⟨k, hk, rfl, rfl, rfl, HN⟩ := hrel
    by_cases hlt : k < s.length
    · obtain ⟨c, hg⟩ : ∃ c, s[k]? = some c := ⟨_, List.getElem?_eq_getElem hlt⟩
      have hg2 : s[k] = c := Option.some.inj ((List.getElem?_eq_getElem hlt).symm.trans hg)
      have k1 : (k : Int) < (s.length : Int) := by omega
      have k0 : (0 : Int) ≤ (k : Int) := by omega
      by_cases a1 : c.toNat = 47
      · have s1 : ((c.toNat : Int) == 47) = true := by rw [beq_iff_eq]; omega
        obtain ⟨NU, hNU⟩ : ∃ q, s.take k = q := ⟨_, rfl⟩
        obtain ⟨DE, hDE⟩ : ∃ q, s.drop (k + 1) = q := ⟨_, rfl⟩
        have HPT : Hid (Parts s NU DE) := Lib.hid (.inr ⟨k, by
          rw [← hNU, ← hDE]
          have e : s.drop k = c :: s.drop (k + 1) := by rw [List.drop_eq_getElem_cons hlt, hg2]
          rw [show (47 : UInt8) = c from (UInt8.toNat_inj.1 a1).symm, ← e, List.take_append_drop], by rw [← hNU]; exact HN.out, by rw [← hNU, List.length_take]; omega⟩)
        have n1 : NU.length ≤ 1000 := by rw [← hNU, List.length_take]; omega
        have n2 : DE.length ≤ 1000 := by rw [← hDE, List.length_drop]; omega
        have w1 : IntKind.i64.wrap ((k : Int) + 1) = (k : Int) + 1 := by rw [IntKind.wrap_i64]; omega
        have w2 : (0 : Int) ≤ (k : Int) + 1 := by omega
        have w3 : ((k : Int) + 1).toNat = k + 1 := by omega
        have x2 : List.take (s.length - (k + 1)) (List.drop (k + 1) s) = DE := by rw [List.take_of_length_le (by rw [List.length_drop]; omega)]; exact hDE
        have x3 : (k : Int) + 1 ≤ (s.length : Int) := by omega
        clear HN a1 hDE
        go_wp2_with fail
        refine wp_region_plan (fun _ => True) [0, 0, 0, 0, 0, 0, 0, 0, 0] [0, 1, 2, 3, 4, 5, 6, 7, 8] (by kernel_rfl) (by kernel_rfl) ?_ ?_
        case refine_1 => trivial
        (iterate 9 (refine plan_held rfl (by decide) (by rfl) (fun w1 hS => by (try (have hS := hS rfl; obtain hS := hS; repeat (obtain ⟨_, hS⟩ := hS))); go_simp; rfl) ?_; simp only [Act.put, List.setIfInBounds_toArray, List.set_cons_zero, List.set_cons_succ]))
        refine plan_done ?_
        clear w1 w2 w3
        go_wp2_with fail
        refine (natural_any NU _ (by first | omega | (simp; done) | (simp; omega))).mono ?_
        unfold NatPost
        rintro e w2 ⟨A, oa, rfl, ha, rfl⟩
        have A0 := ha.1
        have A1 := ha.2.1
        have HNA := Lib.hid ha
        clear ha
        go_wp2_with fail
        refine (natural_any DE _ (by first | omega | (simp; done) | (simp; omega))).mono ?_
        unfold NatPost
        rintro e w2 ⟨b, ob, rfl, hb, rfl⟩
        have B0 := hb.1
        have B1 := hb.2.1
        have HNB := Lib.hid hb
        clear hb
        have hcomp : ∀ n d : Int, chk (n, d) = 0 → txt n d = s → oa = true ∧ ob = true ∧ A = n ∧ b = d := fun n d h ht => by
          obtain ⟨r1, r2, r3, r4⟩ := ref_comp h ht HC.out HPT.out HNA.out HNB.out
          refine ⟨r1, r2, ?_, r4⟩
          first | (rw [if_pos rfl] at r3; omega) | (rw [if_neg (by decide)] at r3; omega)
        have HCP := Lib.hid hcomp
        clear hcomp HNA HNB
        obtain ⟨⟨U, G⟩, hpr⟩ : ∃ q, prtS (A, b) = q := ⟨_, rfl⟩
        have HPR := Lib.hid hpr
        cases oa with
        | false =>
          have HE : Hid (∀ n d : Int, chk (n, d) = 0 → txt n d ≠ s) := Lib.hid (fun n d h ht => absurd (HCP.out n d h ht).1 (by decide))
          clear hpr
          go_wp2_with fail
          refine (rprint_any A b _ (by omega) (by omega) (by omega) (by omega)).mono ?_
          unfold PrtPost
          rw [HPR.out]
          rintro e w3 ⟨rfl, hb3⟩
          have hB3 : Below w.heap.size w w3 := (by repeat' (first | (with_reducible refine bset ?_ ?_) | (with_reducible exact Below.refl _ _) | (with_reducible assumption) | (with_reducible refine bdrewN ?_ _) | (with_reducible refine bdrew ?_) | (with_reducible refine balloc0 ?_) | (with_reducible refine balloc ?_ ?_) | (with_reducible apply btrans0; rotate_left; with_reducible assumption) | (with_reducible apply btrans; rotate_left; with_reducible assumption) | exact Below.refl _ _ | assumption | (apply btrans0; rotate_left; assumption) | (apply btrans; rotate_left; assumption) | (simp; done) | omega | (simp; omega)))
          have A3 : w3.heap[w.heap.size]? = some (.cells #[.int .i64 0, .int .i64 0] 23 (0, 0)) := (hb3.block _ (by simp; omega)).trans ((Below.heap_alloc _ _ _ (by simp)).trans heap_new)
          have X3 : w3.heap[w.heap.size + 1]? = some (.cells #[.int .i64 A, .int .i64 b] 23 (0, 0)) := (hb3.block _ (by simp)).trans (heap_new' (by simp))
          have ca3 := fun o => cellB A3 o
          have fa3 := fun o => frozenB A3 o
          have cx3 := fun o => cellB X3 o
          have z3 : w.heap.size + 1 < w3.heap.size := by have := hb3.size; simp at this; omega
          have z3a : w.heap.size < w3.heap.size := by omega
          clear A3 X3
          go_wp2_with fail
          refine bodyPost_ret (v := .tuple #[.agg #[.int .i64 0, .int .i64 0], .int .i64 3]) (by simp [results, Tryd.results9, go_sem, World.cell?_setCell_same', ca3, cx3, z3a, z3]) rfl ?_
          unfold ParPost
          exact ⟨0, 0, 3, rfl, .inr ⟨rfl, rfl, HE.out⟩, (by repeat' (first | (with_reducible refine bset ?_ ?_) | (with_reducible exact Below.refl _ _) | (with_reducible assumption) | (with_reducible refine bdrewN ?_ _) | (with_reducible refine bdrew ?_) | (with_reducible refine balloc0 ?_) | (with_reducible refine balloc ?_ ?_) | (with_reducible apply btrans0; rotate_left; with_reducible assumption) | (with_reducible apply btrans; rotate_left; with_reducible assumption) | exact Below.refl _ _ | assumption | (apply btrans0; rotate_left; assumption) | (apply btrans; rotate_left; assumption) | (simp; done) | omega | (simp; omega)))⟩
        | true =>
          cases ob with
          | false =>
            have HE : Hid (∀ n d : Int, chk (n, d) = 0 → txt n d ≠ s) := Lib.hid (fun n d h ht => absurd (HCP.out n d h ht).2.1 (by decide))
            clear hpr
            go_wp2_with fail
            refine (rprint_any A b _ (by omega) (by omega) (by omega) (by omega)).mono ?_
            unfold PrtPost
            rw [HPR.out]
            rintro e w3 ⟨rfl, hb3⟩
            have hB3 : Below w.heap.size w w3 := (by repeat' (first | (with_reducible refine bset ?_ ?_) | (with_reducible exact Below.refl _ _) | (with_reducible assumption) | (with_reducible refine bdrewN ?_ _) | (with_reducible refine bdrew ?_) | (with_reducible refine balloc0 ?_) | (with_reducible refine balloc ?_ ?_) | (with_reducible apply btrans0; rotate_left; with_reducible assumption) | (with_reducible apply btrans; rotate_left; with_reducible assumption) | exact Below.refl _ _ | assumption | (apply btrans0; rotate_left; assumption) | (apply btrans; rotate_left; assumption) | (simp; done) | omega | (simp; omega)))
            have A3 : w3.heap[w.heap.size]? = some (.cells #[.int .i64 0, .int .i64 0] 23 (0, 0)) := (hb3.block _ (by simp; omega)).trans ((Below.heap_alloc _ _ _ (by simp)).trans heap_new)
            have X3 : w3.heap[w.heap.size + 1]? = some (.cells #[.int .i64 A, .int .i64 b] 23 (0, 0)) := (hb3.block _ (by simp)).trans (heap_new' (by simp))
            have ca3 := fun o => cellB A3 o
            have fa3 := fun o => frozenB A3 o
            have cx3 := fun o => cellB X3 o
            have z3 : w.heap.size + 1 < w3.heap.size := by have := hb3.size; simp at this; omega
            have z3a : w.heap.size < w3.heap.size := by omega
            clear A3 X3
            go_wp2_with fail
            refine bodyPost_ret (v := .tuple #[.agg #[.int .i64 0, .int .i64 0], .int .i64 3]) (by simp [results, Tryd.results9, go_sem, World.cell?_setCell_same', ca3, cx3, z3a, z3]) rfl ?_
            unfold ParPost
            exact ⟨0, 0, 3, rfl, .inr ⟨rfl, rfl, HE.out⟩, (by repeat' (first | (with_reducible refine bset ?_ ?_) | (with_reducible exact Below.refl _ _) | (with_reducible assumption) | (with_reducible refine bdrewN ?_ _) | (with_reducible refine bdrew ?_) | (with_reducible refine balloc0 ?_) | (with_reducible refine balloc ?_ ?_) | (with_reducible apply btrans0; rotate_left; with_reducible assumption) | (with_reducible apply btrans; rotate_left; with_reducible assumption) | exact Below.refl _ _ | assumption | (apply btrans0; rotate_left; assumption) | (apply btrans; rotate_left; assumption) | (simp; done) | omega | (simp; omega)))⟩
          | true =>
            by_cases g0 : G = 0
            case neg =>
              have g1 : (G != 0) = true := by rw [bne_iff_ne]; exact g0
              have HE : Hid (∀ n d : Int, chk (n, d) = 0 → txt n d ≠ s) := Lib.hid (fun n d h ht => by
                obtain ⟨-, -, r3, r4⟩ := HCP.out n d h ht
                rw [r3, r4, prtS_ok h] at hpr
                exact g0 (by simp only [Prod.mk.injEq] at hpr; exact hpr.2.symm))
              clear g0 hpr
              go_wp2_with fail
              refine (rprint_any A b _ (by omega) (by omega) (by omega) (by omega)).mono ?_
              unfold PrtPost
              rw [HPR.out]
              rintro e w3 ⟨rfl, hb3⟩
              have hB3 : Below w.heap.size w w3 := (by repeat' (first | (with_reducible refine bset ?_ ?_) | (with_reducible exact Below.refl _ _) | (with_reducible assumption) | (with_reducible refine bdrewN ?_ _) | (with_reducible refine bdrew ?_) | (with_reducible refine balloc0 ?_) | (with_reducible refine balloc ?_ ?_) | (with_reducible apply btrans0; rotate_left; with_reducible assumption) | (with_reducible apply btrans; rotate_left; with_reducible assumption) | exact Below.refl _ _ | assumption | (apply btrans0; rotate_left; assumption) | (apply btrans; rotate_left; assumption) | (simp; done) | omega | (simp; omega)))
              have A3 : w3.heap[w.heap.size]? = some (.cells #[.int .i64 0, .int .i64 0] 23 (0, 0)) := (hb3.block _ (by simp; omega)).trans ((Below.heap_alloc _ _ _ (by simp)).trans heap_new)
              have X3 : w3.heap[w.heap.size + 1]? = some (.cells #[.int .i64 A, .int .i64 b] 23 (0, 0)) := (hb3.block _ (by simp)).trans (heap_new' (by simp))
              have ca3 := fun o => cellB A3 o
              have fa3 := fun o => frozenB A3 o
              have cx3 := fun o => cellB X3 o
              have z3 : w.heap.size + 1 < w3.heap.size := by have := hb3.size; simp at this; omega
              have z3a : w.heap.size < w3.heap.size := by omega
              clear A3 X3
              go_wp2_with fail
              refine bodyPost_ret (v := .tuple #[.agg #[.int .i64 0, .int .i64 0], .int .i64 3]) (by simp [results, Tryd.results9, go_sem, World.cell?_setCell_same', ca3, cx3, z3a, z3]) rfl ?_
              unfold ParPost
              exact ⟨0, 0, 3, rfl, .inr ⟨rfl, rfl, HE.out⟩, (by repeat' (first | (with_reducible refine bset ?_ ?_) | (with_reducible exact Below.refl _ _) | (with_reducible assumption) | (with_reducible refine bdrewN ?_ _) | (with_reducible refine bdrew ?_) | (with_reducible refine balloc0 ?_) | (with_reducible refine balloc ?_ ?_) | (with_reducible apply btrans0; rotate_left; with_reducible assumption) | (with_reducible apply btrans; rotate_left; with_reducible assumption) | exact Below.refl _ _ | assumption | (apply btrans0; rotate_left; assumption) | (apply btrans; rotate_left; assumption) | (simp; done) | omega | (simp; omega)))⟩
            subst g0
            obtain ⟨q1, q2⟩ := prtS_zero (show (prtS (A, b)).2 = 0 by rw [hpr])
            rw [hpr] at q2
            by_cases u0 : U = s
            case neg =>
              have u1 : (U == s) = false := beq_eq_false_iff_ne.2 u0
              have HE : Hid (∀ n d : Int, chk (n, d) = 0 → txt n d ≠ s) := Lib.hid (fun n d h ht => by
                obtain ⟨-, -, r3, r4⟩ := HCP.out n d h ht
                simp only at q2
                rw [r3, r4, ht] at q2
                exact u0 q2)
              clear hpr q1 q2
              go_wp2_with fail
              refine (rprint_any A b _ (by omega) (by omega) (by omega) (by omega)).mono ?_
              unfold PrtPost
              rw [HPR.out]
              rintro e w3 ⟨rfl, hb3⟩
              have hB3 : Below w.heap.size w w3 := (by repeat' (first | (with_reducible refine bset ?_ ?_) | (with_reducible exact Below.refl _ _) | (with_reducible assumption) | (with_reducible refine bdrewN ?_ _) | (with_reducible refine bdrew ?_) | (with_reducible refine balloc0 ?_) | (with_reducible refine balloc ?_ ?_) | (with_reducible apply btrans0; rotate_left; with_reducible assumption) | (with_reducible apply btrans; rotate_left; with_reducible assumption) | exact Below.refl _ _ | assumption | (apply btrans0; rotate_left; assumption) | (apply btrans; rotate_left; assumption) | (simp; done) | omega | (simp; omega)))
              have A3 : w3.heap[w.heap.size]? = some (.cells #[.int .i64 0, .int .i64 0] 23 (0, 0)) := (hb3.block _ (by simp; omega)).trans ((Below.heap_alloc _ _ _ (by simp)).trans heap_new)
              have X3 : w3.heap[w.heap.size + 1]? = some (.cells #[.int .i64 A, .int .i64 b] 23 (0, 0)) := (hb3.block _ (by simp)).trans (heap_new' (by simp))
              have ca3 := fun o => cellB A3 o
              have fa3 := fun o => frozenB A3 o
              have cx3 := fun o => cellB X3 o
              have z3 : w.heap.size + 1 < w3.heap.size := by have := hb3.size; simp at this; omega
              have z3a : w.heap.size < w3.heap.size := by omega
              clear A3 X3
              go_wp2_with fail
              refine bodyPost_ret (v := .tuple #[.agg #[.int .i64 0, .int .i64 0], .int .i64 3]) (by simp [results, Tryd.results9, go_sem, World.cell?_setCell_same', ca3, cx3, z3a, z3]) rfl ?_
              unfold ParPost
              exact ⟨0, 0, 3, rfl, .inr ⟨rfl, rfl, HE.out⟩, (by repeat' (first | (with_reducible refine bset ?_ ?_) | (with_reducible exact Below.refl _ _) | (with_reducible assumption) | (with_reducible refine bdrewN ?_ _) | (with_reducible refine bdrew ?_) | (with_reducible refine balloc0 ?_) | (with_reducible refine balloc ?_ ?_) | (with_reducible apply btrans0; rotate_left; with_reducible assumption) | (with_reducible apply btrans; rotate_left; with_reducible assumption) | exact Below.refl _ _ | assumption | (apply btrans0; rotate_left; assumption) | (apply btrans; rotate_left; assumption) | (simp; done) | omega | (simp; omega)))⟩
            have HQ : Hid (chk (A, b) = 0 ∧ txt A b = s) := Lib.hid ⟨q1, by rw [← u0]; exact q2.symm⟩
            rw [u0] at HPR
            clear hpr q1 q2 u0
            go_wp2_with fail
            refine (rprint_any A b _ (by omega) (by omega) (by omega) (by omega)).mono ?_
            unfold PrtPost
            rw [HPR.out]
            rintro e w3 ⟨rfl, hb3⟩
            have hB3 : Below w.heap.size w w3 := (by repeat' (first | (with_reducible refine bset ?_ ?_) | (with_reducible exact Below.refl _ _) | (with_reducible assumption) | (with_reducible refine bdrewN ?_ _) | (with_reducible refine bdrew ?_) | (with_reducible refine balloc0 ?_) | (with_reducible refine balloc ?_ ?_) | (with_reducible apply btrans0; rotate_left; with_reducible assumption) | (with_reducible apply btrans; rotate_left; with_reducible assumption) | exact Below.refl _ _ | assumption | (apply btrans0; rotate_left; assumption) | (apply btrans; rotate_left; assumption) | (simp; done) | omega | (simp; omega)))
            have A3 : w3.heap[w.heap.size]? = some (.cells #[.int .i64 0, .int .i64 0] 23 (0, 0)) := (hb3.block _ (by simp; omega)).trans ((Below.heap_alloc _ _ _ (by simp)).trans heap_new)
            have X3 : w3.heap[w.heap.size + 1]? = some (.cells #[.int .i64 A, .int .i64 b] 23 (0, 0)) := (hb3.block _ (by simp)).trans (heap_new' (by simp))
            have ca3 := fun o => cellB A3 o
            have fa3 := fun o => frozenB A3 o
            have cx3 := fun o => cellB X3 o
            have z3 : w.heap.size + 1 < w3.heap.size := by have := hb3.size; simp at this; omega
            have z3a : w.heap.size < w3.heap.size := by omega
            clear A3 X3
            go_wp2_with fail
            refine bodyPost_ret (v := .tuple #[.agg #[.int .i64 A, .int .i64 b], .int .i64 0]) (by simp [results, Tryd.results9, go_sem, World.cell?_setCell_same', ca3, cx3, z3a, z3]) rfl ?_
            unfold ParPost
            exact ⟨A, b, 0, rfl, .inl ⟨rfl, HQ.out.1, HQ.out.2⟩, (by repeat' (first | (with_reducible refine bset ?_ ?_) | (with_reducible exact Below.refl _ _) | (with_reducible assumption) | (with_reducible refine bdrewN ?_ _) | (with_reducible refine bdrew ?_) | (with_reducible refine balloc0 ?_) | (with_reducible refine balloc ?_ ?_) | (with_reducible apply btrans0; rotate_left; with_reducible assumption) | (with_reducible apply btrans; rotate_left; with_reducible assumption) | exact Below.refl _ _ | assumption | (apply btrans0; rotate_left; assumption) | (apply btrans; rotate_left; assumption) | (simp; done) | omega | (simp; omega)))⟩
      · have s1 : ((c.toNat : Int) == 47) = false := by rw [beq_eq_false_iff_ne]; omega
        have HN2 : Hid (∀ c ∈ s.take (k + 1), c ≠ 47) := Lib.hid (by
          rw [List.take_add_one, hg]
          intro d hd
          rcases List.mem_append.1 hd with hd | hd
          · exact HN.out d hd
          · rw [show d = c from by simpa using hd]; intro e; exact a1 (by rw [e]; rfl))
        clear HN a1
        go_wp2_with fail
        go_round
        case rel => exact ⟨k + 1, by omega, by go_num, rfl, rfl, HN2⟩
        case measure => simp [intOf]; omega
    · obtain rfl : k = s.length := by omega
      have k1 : ¬ (s.length : Int) < (s.length : Int) := by omega
      have HPT : Hid (Parts s s [49]) := Lib.hid (.inl ⟨by have := HN.out; rwa [List.take_length] at this, rfl, rfl⟩)
      clear HN
      go_wp2_with fail
      refine (natural_any s _ (by first | omega | (simp; done) | (simp; omega))).mono ?_
      unfold NatPost
      rintro e w2 ⟨A, oa, rfl, ha, rfl⟩
      have A0 := ha.1
      have A1 := ha.2.1
      have HNA := Lib.hid ha
      clear ha
      go_wp2_with fail
      refine (natural_any [49] _ (by first | omega | (simp; done) | (simp; omega))).mono ?_
      unfold NatPost
      rintro e w2 ⟨b, ob, rfl, hb, rfl⟩
      have B0 := hb.1
      have B1 := hb.2.1
      have HNB := Lib.hid hb
      clear hb
      have hcomp : ∀ n d : Int, chk (n, d) = 0 → txt n d = s → oa = true ∧ ob = true ∧ A = n ∧ b = d := fun n d h ht => by
        obtain ⟨r1, r2, r3, r4⟩ := ref_comp h ht HC.out HPT.out HNA.out HNB.out
        refine ⟨r1, r2, ?_, r4⟩
        first | (rw [if_pos rfl] at r3; omega) | (rw [if_neg (by decide)] at r3; omega)
      have HCP := Lib.hid hcomp
      clear hcomp HNA HNB
      obtain ⟨⟨U, G⟩, hpr⟩ : ∃ q, prtS (A, b) = q := ⟨_, rfl⟩
      have HPR := Lib.hid hpr
      cases oa with
      | false =>
        have HE : Hid (∀ n d : Int, chk (n, d) = 0 → txt n d ≠ s) := Lib.hid (fun n d h ht => absurd (HCP.out n d h ht).1 (by decide))
        clear hpr
        go_wp2_with fail
        refine (rprint_any A b _ (by omega) (by omega) (by omega) (by omega)).mono ?_
        unfold PrtPost
        rw [HPR.out]
        rintro e w3 ⟨rfl, hb3⟩
        have hB3 : Below w.heap.size w w3 := (by repeat' (first | (with_reducible refine bset ?_ ?_) | (with_reducible exact Below.refl _ _) | (with_reducible assumption) | (with_reducible refine bdrewN ?_ _) | (with_reducible refine bdrew ?_) | (with_reducible refine balloc0 ?_) | (with_reducible refine balloc ?_ ?_) | (with_reducible apply btrans0; rotate_left; with_reducible assumption) | (with_reducible apply btrans; rotate_left; with_reducible assumption) | exact Below.refl _ _ | assumption | (apply btrans0; rotate_left; assumption) | (apply btrans; rotate_left; assumption) | (simp; done) | omega | (simp; omega)))
        have A3 : w3.heap[w.heap.size]? = some (.cells #[.int .i64 0, .int .i64 0] 23 (0, 0)) := (hb3.block _ (by simp; omega)).trans ((Below.heap_alloc _ _ _ (by simp)).trans heap_new)
        have X3 : w3.heap[w.heap.size + 1]? = some (.cells #[.int .i64 A, .int .i64 b] 23 (0, 0)) := (hb3.block _ (by simp)).trans (heap_new' (by simp))
        have ca3 := fun o => cellB A3 o
        have fa3 := fun o => frozenB A3 o
        have cx3 := fun o => cellB X3 o
        have z3 : w.heap.size + 1 < w3.heap.size := by have := hb3.size; simp at this; omega
        have z3a : w.heap.size < w3.heap.size := by omega
        clear A3 X3
        go_wp2_with fail
        refine bodyPost_ret (v := .tuple #[.agg #[.int .i64 0, .int .i64 0], .int .i64 3]) (by simp [results, Tryd.results9, go_sem, World.cell?_setCell_same', ca3, cx3, z3a, z3]) rfl ?_
        unfold ParPost
        exact ⟨0, 0, 3, rfl, .inr ⟨rfl, rfl, HE.out⟩, (by repeat' (first | (with_reducible refine bset ?_ ?_) | (with_reducible exact Below.refl _ _) | (with_reducible assumption) | (with_reducible refine bdrewN ?_ _) | (with_reducible refine bdrew ?_) | (with_reducible refine balloc0 ?_) | (with_reducible refine balloc ?_ ?_) | (with_reducible apply btrans0; rotate_left; with_reducible assumption) | (with_reducible apply btrans; rotate_left; with_reducible assumption) | exact Below.refl _ _ | assumption | (apply btrans0; rotate_left; assumption) | (apply btrans; rotate_left; assumption) | (simp; done) | omega | (simp; omega)))⟩
      | true =>
        cases ob with
        | false =>
          have HE : Hid (∀ n d : Int, chk (n, d) = 0 → txt n d ≠ s) := Lib.hid (fun n d h ht => absurd (HCP.out n d h ht).2.1 (by decide))
          clear hpr
          go_wp2_with fail
          refine (rprint_any A b _ (by omega) (by omega) (by omega) (by omega)).mono ?_
          unfold PrtPost
          rw [HPR.out]
          rintro e w3 ⟨rfl, hb3⟩
          have hB3 : Below w.heap.size w w3 := (by repeat' (first | (with_reducible refine bset ?_ ?_) | (with_reducible exact Below.refl _ _) | (with_reducible assumption) | (with_reducible refine bdrewN ?_ _) | (with_reducible refine bdrew ?_) | (with_reducible refine balloc0 ?_) | (with_reducible refine balloc ?_ ?_) | (with_reducible apply btrans0; rotate_left; with_reducible assumption) | (with_reducible apply btrans; rotate_left; with_reducible assumption) | exact Below.refl _ _ | assumption | (apply btrans0; rotate_left; assumption) | (apply btrans; rotate_left; assumption) | (simp; done) | omega | (simp; omega)))
          have A3 : w3.heap[w.heap.size]? = some (.cells #[.int .i64 0, .int .i64 0] 23 (0, 0)) := (hb3.block _ (by simp; omega)).trans ((Below.heap_alloc _ _ _ (by simp)).trans heap_new)
          have X3 : w3.heap[w.heap.size + 1]? = some (.cells #[.int .i64 A, .int .i64 b] 23 (0, 0)) := (hb3.block _ (by simp)).trans (heap_new' (by simp))
          have ca3 := fun o => cellB A3 o
          have fa3 := fun o => frozenB A3 o
          have cx3 := fun o => cellB X3 o
          have z3 : w.heap.size + 1 < w3.heap.size := by have := hb3.size; simp at this; omega
          have z3a : w.heap.size < w3.heap.size := by omega
          clear A3 X3
          go_wp2_with fail
          refine bodyPost_ret (v := .tuple #[.agg #[.int .i64 0, .int .i64 0], .int .i64 3]) (by simp [results, Tryd.results9, go_sem, World.cell?_setCell_same', ca3, cx3, z3a, z3]) rfl ?_
          unfold ParPost
          exact ⟨0, 0, 3, rfl, .inr ⟨rfl, rfl, HE.out⟩, (by repeat' (first | (with_reducible refine bset ?_ ?_) | (with_reducible exact Below.refl _ _) | (with_reducible assumption) | (with_reducible refine bdrewN ?_ _) | (with_reducible refine bdrew ?_) | (with_reducible refine balloc0 ?_) | (with_reducible refine balloc ?_ ?_) | (with_reducible apply btrans0; rotate_left; with_reducible assumption) | (with_reducible apply btrans; rotate_left; with_reducible assumption) | exact Below.refl _ _ | assumption | (apply btrans0; rotate_left; assumption) | (apply btrans; rotate_left; assumption) | (simp; done) | omega | (simp; omega)))⟩
        | true =>
          by_cases g0 : G = 0
          case neg =>
            have g1 : (G != 0) = true := by rw [bne_iff_ne]; exact g0
            have HE : Hid (∀ n d : Int, chk (n, d) = 0 → txt n d ≠ s) := Lib.hid (fun n d h ht => by
              obtain ⟨-, -, r3, r4⟩ := HCP.out n d h ht
              rw [r3, r4, prtS_ok h] at hpr
              exact g0 (by simp only [Prod.mk.injEq] at hpr; exact hpr.2.symm))
            clear g0 hpr
            go_wp2_with fail
            refine (rprint_any A b _ (by omega) (by omega) (by omega) (by omega)).mono ?_
            unfold PrtPost
            rw [HPR.out]
            rintro e w3 ⟨rfl, hb3⟩
            have hB3 : Below w.heap.size w w3 := (by repeat' (first | (with_reducible refine bset ?_ ?_) | (with_reducible exact Below.refl _ _) | (with_reducible assumption) | (with_reducible refine bdrewN ?_ _) | (with_reducible refine bdrew ?_) | (with_reducible refine balloc0 ?_) | (with_reducible refine balloc ?_ ?_) | (with_reducible apply btrans0; rotate_left; with_reducible assumption) | (with_reducible apply btrans; rotate_left; with_reducible assumption) | exact Below.refl _ _ | assumption | (apply btrans0; rotate_left; assumption) | (apply btrans; rotate_left; assumption) | (simp; done) | omega | (simp; omega)))
            have A3 : w3.heap[w.heap.size]? = some (.cells #[.int .i64 0, .int .i64 0] 23 (0, 0)) := (hb3.block _ (by simp; omega)).trans ((Below.heap_alloc _ _ _ (by simp)).trans heap_new)
            have X3 : w3.heap[w.heap.size + 1]? = some (.cells #[.int .i64 A, .int .i64 b] 23 (0, 0)) := (hb3.block _ (by simp)).trans (heap_new' (by simp))
            have ca3 := fun o => cellB A3 o
            have fa3 := fun o => frozenB A3 o
            have cx3 := fun o => cellB X3 o
            have z3 : w.heap.size + 1 < w3.heap.size := by have := hb3.size; simp at this; omega
            have z3a : w.heap.size < w3.heap.size := by omega
            clear A3 X3
            go_wp2_with fail
            refine bodyPost_ret (v := .tuple #[.agg #[.int .i64 0, .int .i64 0], .int .i64 3]) (by simp [results, Tryd.results9, go_sem, World.cell?_setCell_same', ca3, cx3, z3a, z3]) rfl ?_
            unfold ParPost
            exact ⟨0, 0, 3, rfl, .inr ⟨rfl, rfl, HE.out⟩, (by repeat' (first | (with_reducible refine bset ?_ ?_) | (with_reducible exact Below.refl _ _) | (with_reducible assumption) | (with_reducible refine bdrewN ?_ _) | (with_reducible refine bdrew ?_) | (with_reducible refine balloc0 ?_) | (with_reducible refine balloc ?_ ?_) | (with_reducible apply btrans0; rotate_left; with_reducible assumption) | (with_reducible apply btrans; rotate_left; with_reducible assumption) | exact Below.refl _ _ | assumption | (apply btrans0; rotate_left; assumption) | (apply btrans; rotate_left; assumption) | (simp; done) | omega | (simp; omega)))⟩
          subst g0
          obtain ⟨q1, q2⟩ := prtS_zero (show (prtS (A, b)).2 = 0 by rw [hpr])
          rw [hpr] at q2
          by_cases u0 : U = s
          case neg =>
            have u1 : (U == s) = false := beq_eq_false_iff_ne.2 u0
            have HE : Hid (∀ n d : Int, chk (n, d) = 0 → txt n d ≠ s) := Lib.hid (fun n d h ht => by
              obtain ⟨-, -, r3, r4⟩ := HCP.out n d h ht
              simp only at q2
              rw [r3, r4, ht] at q2
              exact u0 q2)
            clear hpr q1 q2
            go_wp2_with fail
            refine (rprint_any A b _ (by omega) (by omega) (by omega) (by omega)).mono ?_
            unfold PrtPost
            rw [HPR.out]
            rintro e w3 ⟨rfl, hb3⟩
            have hB3 : Below w.heap.size w w3 := (by repeat' (first | (with_reducible refine bset ?_ ?_) | (with_reducible exact Below.refl _ _) | (with_reducible assumption) | (with_reducible refine bdrewN ?_ _) | (with_reducible refine bdrew ?_) | (with_reducible refine balloc0 ?_) | (with_reducible refine balloc ?_ ?_) | (with_reducible apply btrans0; rotate_left; with_reducible assumption) | (with_reducible apply btrans; rotate_left; with_reducible assumption) | exact Below.refl _ _ | assumption | (apply btrans0; rotate_left; assumption) | (apply btrans; rotate_left; assumption) | (simp; done) | omega | (simp; omega)))
            have A3 : w3.heap[w.heap.size]? = some (.cells #[.int .i64 0, .int .i64 0] 23 (0, 0)) := (hb3.block _ (by simp; omega)).trans ((Below.heap_alloc _ _ _ (by simp)).trans heap_new)
            have X3 : w3.heap[w.heap.size + 1]? = some (.cells #[.int .i64 A, .int .i64 b] 23 (0, 0)) := (hb3.block _ (by simp)).trans (heap_new' (by simp))
            have ca3 := fun o => cellB A3 o
            have fa3 := fun o => frozenB A3 o
            have cx3 := fun o => cellB X3 o
            have z3 : w.heap.size + 1 < w3.heap.size := by have := hb3.size; simp at this; omega
            have z3a : w.heap.size < w3.heap.size := by omega
            clear A3 X3
            go_wp2_with fail
            refine bodyPost_ret (v := .tuple #[.agg #[.int .i64 0, .int .i64 0], .int .i64 3]) (by simp [results, Tryd.results9, go_sem, World.cell?_setCell_same', ca3, cx3, z3a, z3]) rfl ?_
            unfold ParPost
            exact ⟨0, 0, 3, rfl, .inr ⟨rfl, rfl, HE.out⟩, (by repeat' (first | (with_reducible refine bset ?_ ?_) | (with_reducible exact Below.refl _ _) | (with_reducible assumption) | (with_reducible refine bdrewN ?_ _) | (with_reducible refine bdrew ?_) | (with_reducible refine balloc0 ?_) | (with_reducible refine balloc ?_ ?_) | (with_reducible apply btrans0; rotate_left; with_reducible assumption) | (with_reducible apply btrans; rotate_left; with_reducible assumption) | exact Below.refl _ _ | assumption | (apply btrans0; rotate_left; assumption) | (apply btrans; rotate_left; assumption) | (simp; done) | omega | (simp; omega)))⟩
          have HQ : Hid (chk (A, b) = 0 ∧ txt A b = s) := Lib.hid ⟨q1, by rw [← u0]; exact q2.symm⟩
          rw [u0] at HPR
          clear hpr q1 q2 u0
          go_wp2_with fail
          refine (rprint_any A b _ (by omega) (by omega) (by omega) (by omega)).mono ?_
          unfold PrtPost
          rw [HPR.out]
          rintro e w3 ⟨rfl, hb3⟩
          have hB3 : Below w.heap.size w w3 := (by repeat' (first | (with_reducible refine bset ?_ ?_) | (with_reducible exact Below.refl _ _) | (with_reducible assumption) | (with_reducible refine bdrewN ?_ _) | (with_reducible refine bdrew ?_) | (with_reducible refine balloc0 ?_) | (with_reducible refine balloc ?_ ?_) | (with_reducible apply btrans0; rotate_left; with_reducible assumption) | (with_reducible apply btrans; rotate_left; with_reducible assumption) | exact Below.refl _ _ | assumption | (apply btrans0; rotate_left; assumption) | (apply btrans; rotate_left; assumption) | (simp; done) | omega | (simp; omega)))
          have A3 : w3.heap[w.heap.size]? = some (.cells #[.int .i64 0, .int .i64 0] 23 (0, 0)) := (hb3.block _ (by simp; omega)).trans ((Below.heap_alloc _ _ _ (by simp)).trans heap_new)
          have X3 : w3.heap[w.heap.size + 1]? = some (.cells #[.int .i64 A, .int .i64 b] 23 (0, 0)) := (hb3.block _ (by simp)).trans (heap_new' (by simp))
          have ca3 := fun o => cellB A3 o
          have fa3 := fun o => frozenB A3 o
          have cx3 := fun o => cellB X3 o
          have z3 : w.heap.size + 1 < w3.heap.size := by have := hb3.size; simp at this; omega
          have z3a : w.heap.size < w3.heap.size := by omega
          clear A3 X3
          go_wp2_with fail
          refine bodyPost_ret (v := .tuple #[.agg #[.int .i64 A, .int .i64 b], .int .i64 0]) (by simp [results, Tryd.results9, go_sem, World.cell?_setCell_same', ca3, cx3, z3a, z3]) rfl ?_
          unfold ParPost
          exact ⟨A, b, 0, rfl, .inl ⟨rfl, HQ.out.1, HQ.out.2⟩, (by repeat' (first | (with_reducible refine bset ?_ ?_) | (with_reducible exact Below.refl _ _) | (with_reducible assumption) | (with_reducible refine bdrewN ?_ _) | (with_reducible refine bdrew ?_) | (with_reducible refine balloc0 ?_) | (with_reducible refine balloc ?_ ?_) | (with_reducible apply btrans0; rotate_left; with_reducible assumption) | (with_reducible apply btrans; rotate_left; with_reducible assumption) | exact Below.refl _ _ | assumption | (apply btrans0; rotate_left; assumption) | (apply btrans; rotate_left; assumption) | (simp; done) | omega | (simp; omega)))⟩
theorem rparse_any (s : List UInt8) (w : World) (hs : s.length ≤ 1000) :
    Calls Tryd.prog 9 #[.string (B s)] w (ParPost s w) := by
  by_cases hd : s.head? = some 45
  · obtain ⟨r, rfl⟩ : ∃ r, s = 45 :: r := by
      cases s with
      | nil => simp at hd
      | cons c r => exact ⟨r, by simpa using hd⟩
    exact rparse_neg _ r w hs (by simp only [List.length_cons] at hs; omega) (Lib.hid (cutM_cons r)) rfl (by simp) rfl (by simp)
  · have HC : Hid (cutM s = (s, false)) := Lib.hid (cutM_none hd)
    cases s with
    | nil => exact rparse_nil _ w hs HC (by decide)
    | cons c0 r0 =>
      refine rparse_pos _ w hs c0 HC rfl (by simp) rfl ?_
      rw [beq_eq_false_iff_ne]
      intro e
      refine hd ?_
      rw [List.head?_cons]
      congr 1
      exact UInt8.toNat_inj.1 (by have : (45 : UInt8).toNat = 45 := rfl; omega)
end Go.Proofs.YtfkdhcfedjbkfaaDoor
