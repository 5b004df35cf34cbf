/- Layer 14, the reference: age. -/
import Derived.Test.YthgokfceakbjlaaAu
set_option linter.unusedVariables false
set_option linter.unusedSimpArgs false
namespace Go.Proofs.Ythgokfceakbjlaa
open Go Go.RowKit
attribute [local go_sem] B_getElem B_size B_app B_extract B_get B_toList

theorem num1_R {s : List UInt8} {n k e : Int} (h : readS s = (n, k, e)) : num1 s = if e = 0 ∧ k = (s.length : Int) ∧ 0 ≤ n ∧ n ≤ 1099511627776 then some [n] else none := by
  unfold num1
  rw [rdNs, h]
  simp only
  by_cases he : e = 0
  · subst he
    obtain ⟨q1, q2, q3, _, _⟩ := (readS_ok h).1 rfl
    rw [if_neg (by simp)]
    simp only [rdNs, Nat.add_zero, List.getD_cons_zero, true_and]
    by_cases hk : k = (s.length : Int)
    · by_cases hn : 0 ≤ n ∧ n ≤ 1099511627776
      · rw [if_pos ⟨by omega, hn⟩, if_pos ⟨hk, hn⟩]
      · rw [if_neg (fun x => hn x.2), if_neg (fun x => hn x.2)]
    · rw [if_neg (fun x => hk (by omega)), if_neg (fun x => hk x.1)]
  · rw [if_pos he, if_neg (fun x => he x.1)]
theorem getS_data {b : Bun} {k : Int} {s : List UInt8} {E : Int} (h : chkE b = 0) (hd : dataS b k = (s, E)) : (E = 7 ∧ getS b k = ([], 7)) ∨ (E = 0 ∧ s.length ≤ 1024 ∧ getS b k = match dat k s with | none => ([], 11) | some l => (l, 0)) := by
  unfold dataS at hd
  obtain ⟨⟨x, q⟩, hf⟩ : ∃ q, findS b.blocks k = q := ⟨_, rfl⟩
  rw [hf] at hd
  cases q with
  | false => simp only [Prod.mk.injEq] at hd; exact .inl ⟨hd.2.symm, getS_no h hf⟩
  | true =>
    simp only [Prod.mk.injEq] at hd
    obtain ⟨rfl, rfl⟩ := hd
    exact .inr ⟨rfl, (find_data h hf).2.2, getS_yes h hf⟩
set_option maxRecDepth 100000 in
set_option maxHeartbeats 4000000 in
theorem rage0_any (b : Bun) (u : Value) (w : World) (h : RBlks w w.heap.size u b.blocks) (hv : chkE b = 0) :
    Calls Try.prog 33 #[.agg (bunC b u).toArray] w fun e w' => e = .returned (.tuple #[.int .i64 (ageS b).1, .int .i64 (ageS b).2]) ∧ Below w.heap.size w w' := by
  have HR := Lib.hid h
  obtain ⟨a, c, rfl, h1, h2, h3, h4⟩ := h
  clear h1 h2 h3 h4
  obtain ⟨⟨s, E⟩, hda⟩ : ∃ q, dataS b 1 = q := ⟨_, rfl⟩
  have HDA := Lib.hid hda
  obtain ⟨⟨A, AE⟩, hag⟩ : ∃ q, ageS b = q := ⟨_, rfl⟩
  rw [hag]
  simp only
  have hga := getS_data hv hda
  unfold ageS at hag
  rcases hga with ⟨rfl, hg⟩ | ⟨rfl, hs, hg⟩
  · rw [hg] at hag
    simp only [Prod.mk.injEq] at hag
    obtain ⟨rfl, rfl⟩ := hag
    clear hda hg hv
    go_enter Try.func33, Try.ntmps33
    simp only [bunC]
    go_wp2_with fail
    refine (rdata_any b _ 1 _ (HR.out.below' (by repeat' (first | with_reducible (first | refine bset ?_ ?_ | exact Below.refl _ _ | assumption | refine bdrewN ?_ _ | refine bdrew ?_ | refine balloc0 ?_ | refine balloc ?_ ?_ | (apply btrans0; rotate_left; assumption) | (apply btrans; rotate_left; assumption)) | exact Below.refl _ _ | assumption | (apply btrans0; rotate_left; assumption) | (apply btrans; rotate_left; assumption) | (simp; done) | omega | (simp; omega))))).mono ?_
    rw [HDA.out]
    simp only
    rintro e w1 ⟨rfl, hb1⟩
    have hB1 : Below w.heap.size w w1 := (by repeat' (first | with_reducible (first | refine bset ?_ ?_ | exact Below.refl _ _ | assumption | refine bdrewN ?_ _ | refine bdrew ?_ | refine balloc0 ?_ | refine balloc ?_ ?_ | (apply btrans0; rotate_left; assumption) | (apply btrans; rotate_left; assumption)) | exact Below.refl _ _ | assumption | (apply btrans0; rotate_left; assumption) | (apply btrans; rotate_left; assumption) | (simp; done) | omega | (simp; omega)))
    clear hb1
    go_wp2_with fail
    go_ret2
    exact ⟨rfl, (by repeat' (first | with_reducible (first | refine bset ?_ ?_ | exact Below.refl _ _ | assumption | refine bdrewN ?_ _ | refine bdrew ?_ | refine balloc0 ?_ | refine balloc ?_ ?_ | (apply btrans0; rotate_left; assumption) | (apply btrans; rotate_left; assumption)) | exact Below.refl _ _ | assumption | (apply btrans0; rotate_left; assumption) | (apply btrans; rotate_left; assumption) | (simp; done) | omega | (simp; omega)))⟩
  · obtain ⟨⟨n, k, E2⟩, hrs⟩ : ∃ q, readS s = q := ⟨_, rfl⟩
    have hn := num1_R hrs
    rw [show dat 1 s = num1 s from rfl, hn] at hg
    have HRS := Lib.hid hrs
    clear hrs hn hda hv
    by_cases he : E2 = 0
    case neg =>
      rw [if_neg (fun x => he x.1)] at hg
      rw [hg] at hag
      simp only [Prod.mk.injEq] at hag
      obtain ⟨rfl, rfl⟩ := hag
      have he2 : (E2 != 0) = true := by rw [bne_iff_ne]; exact he
      clear hg he
      go_enter Try.func33, Try.ntmps33
      simp only [bunC]
      go_wp2_with fail
      refine (rdata_any b _ 1 _ (HR.out.below' (by repeat' (first | with_reducible (first | refine bset ?_ ?_ | exact Below.refl _ _ | assumption | refine bdrewN ?_ _ | refine bdrew ?_ | refine balloc0 ?_ | refine balloc ?_ ?_ | (apply btrans0; rotate_left; assumption) | (apply btrans; rotate_left; assumption)) | exact Below.refl _ _ | assumption | (apply btrans0; rotate_left; assumption) | (apply btrans; rotate_left; assumption) | (simp; done) | omega | (simp; omega))))).mono ?_
      rw [HDA.out]
      simp only
      rintro e w1 ⟨rfl, hb1⟩
      have hB1 : Below w.heap.size w w1 := (by repeat' (first | with_reducible (first | refine bset ?_ ?_ | exact Below.refl _ _ | assumption | refine bdrewN ?_ _ | refine bdrew ?_ | refine balloc0 ?_ | refine balloc ?_ ?_ | (apply btrans0; rotate_left; assumption) | (apply btrans; rotate_left; assumption)) | exact Below.refl _ _ | assumption | (apply btrans0; rotate_left; assumption) | (apply btrans; rotate_left; assumption) | (simp; done) | omega | (simp; omega)))
      clear hb1
      go_wp2_with fail
      refine (rreadint_any s n k E2 _ (by omega) HRS.out).mono ?_
      rintro e w2 ⟨rfl, rfl⟩
      go_wp2_with fail
      go_ret2
      exact ⟨rfl, (by repeat' (first | with_reducible (first | refine bset ?_ ?_ | exact Below.refl _ _ | assumption | refine bdrewN ?_ _ | refine bdrew ?_ | refine balloc0 ?_ | refine balloc ?_ ?_ | (apply btrans0; rotate_left; assumption) | (apply btrans; rotate_left; assumption)) | exact Below.refl _ _ | assumption | (apply btrans0; rotate_left; assumption) | (apply btrans; rotate_left; assumption) | (simp; done) | omega | (simp; omega)))⟩
    subst he
    by_cases hk : k = (s.length : Int)
    case neg =>
      rw [if_neg (fun x => hk x.2.1)] at hg
      rw [hg] at hag
      simp only [Prod.mk.injEq] at hag
      obtain ⟨rfl, rfl⟩ := hag
      have hk2 : (k != (s.length : Int)) = true := by rw [bne_iff_ne]; exact hk
      have hk3 : (k == (s.length : Int)) = false := beq_eq_false_iff_ne.2 hk
      clear hg hk
      go_enter Try.func33, Try.ntmps33
      simp only [bunC]
      go_wp2_with fail
      refine (rdata_any b _ 1 _ (HR.out.below' (by repeat' (first | with_reducible (first | refine bset ?_ ?_ | exact Below.refl _ _ | assumption | refine bdrewN ?_ _ | refine bdrew ?_ | refine balloc0 ?_ | refine balloc ?_ ?_ | (apply btrans0; rotate_left; assumption) | (apply btrans; rotate_left; assumption)) | exact Below.refl _ _ | assumption | (apply btrans0; rotate_left; assumption) | (apply btrans; rotate_left; assumption) | (simp; done) | omega | (simp; omega))))).mono ?_
      rw [HDA.out]
      simp only
      rintro e w1 ⟨rfl, hb1⟩
      have hB1 : Below w.heap.size w w1 := (by repeat' (first | with_reducible (first | refine bset ?_ ?_ | exact Below.refl _ _ | assumption | refine bdrewN ?_ _ | refine bdrew ?_ | refine balloc0 ?_ | refine balloc ?_ ?_ | (apply btrans0; rotate_left; assumption) | (apply btrans; rotate_left; assumption)) | exact Below.refl _ _ | assumption | (apply btrans0; rotate_left; assumption) | (apply btrans; rotate_left; assumption) | (simp; done) | omega | (simp; omega)))
      clear hb1
      go_wp2_with fail
      refine (rreadint_any s n k 0 _ (by omega) HRS.out).mono ?_
      rintro e w2 ⟨rfl, rfl⟩
      go_wp2_with fail
      go_ret2
      exact ⟨rfl, (by repeat' (first | with_reducible (first | refine bset ?_ ?_ | exact Below.refl _ _ | assumption | refine bdrewN ?_ _ | refine bdrew ?_ | refine balloc0 ?_ | refine balloc ?_ ?_ | (apply btrans0; rotate_left; assumption) | (apply btrans; rotate_left; assumption)) | exact Below.refl _ _ | assumption | (apply btrans0; rotate_left; assumption) | (apply btrans; rotate_left; assumption) | (simp; done) | omega | (simp; omega)))⟩
    have hk2 : (k != (s.length : Int)) = false := by rw [hk]; simp
    have hk3 : (k == (s.length : Int)) = true := by rw [hk]; simp
    by_cases hn : 0 ≤ n ∧ n ≤ 1099511627776
    · rw [if_pos ⟨rfl, hk, hn⟩] at hg
      rw [hg] at hag
      simp only [List.getD_cons_zero, Prod.mk.injEq] at hag
      obtain ⟨rfl, rfl⟩ := hag
      obtain ⟨n1, n2⟩ := hn
      clear hg hk
      go_enter Try.func33, Try.ntmps33
      simp only [bunC]
      go_wp2_with fail
      refine (rdata_any b _ 1 _ (HR.out.below' (by repeat' (first | with_reducible (first | refine bset ?_ ?_ | exact Below.refl _ _ | assumption | refine bdrewN ?_ _ | refine bdrew ?_ | refine balloc0 ?_ | refine balloc ?_ ?_ | (apply btrans0; rotate_left; assumption) | (apply btrans; rotate_left; assumption)) | exact Below.refl _ _ | assumption | (apply btrans0; rotate_left; assumption) | (apply btrans; rotate_left; assumption) | (simp; done) | omega | (simp; omega))))).mono ?_
      rw [HDA.out]
      simp only
      rintro e w1 ⟨rfl, hb1⟩
      have hB1 : Below w.heap.size w w1 := (by repeat' (first | with_reducible (first | refine bset ?_ ?_ | exact Below.refl _ _ | assumption | refine bdrewN ?_ _ | refine bdrew ?_ | refine balloc0 ?_ | refine balloc ?_ ?_ | (apply btrans0; rotate_left; assumption) | (apply btrans; rotate_left; assumption)) | exact Below.refl _ _ | assumption | (apply btrans0; rotate_left; assumption) | (apply btrans; rotate_left; assumption) | (simp; done) | omega | (simp; omega)))
      clear hb1
      go_wp2_with fail
      refine (rreadint_any s n k 0 _ (by omega) HRS.out).mono ?_
      rintro e w2 ⟨rfl, rfl⟩
      go_wp2_with fail
      go_ret2
      exact ⟨rfl, (by repeat' (first | with_reducible (first | refine bset ?_ ?_ | exact Below.refl _ _ | assumption | refine bdrewN ?_ _ | refine bdrew ?_ | refine balloc0 ?_ | refine balloc ?_ ?_ | (apply btrans0; rotate_left; assumption) | (apply btrans; rotate_left; assumption)) | exact Below.refl _ _ | assumption | (apply btrans0; rotate_left; assumption) | (apply btrans; rotate_left; assumption) | (simp; done) | omega | (simp; omega)))⟩
    · rw [if_neg (fun x => hn x.2.2)] at hg
      rw [hg] at hag
      simp only [Prod.mk.injEq] at hag
      obtain ⟨rfl, rfl⟩ := hag
      clear hg hk
      by_cases n1 : n < 0
      · clear hn
        go_enter Try.func33, Try.ntmps33
        simp only [bunC]
        go_wp2_with fail
        refine (rdata_any b _ 1 _ (HR.out.below' (by repeat' (first | with_reducible (first | refine bset ?_ ?_ | exact Below.refl _ _ | assumption | refine bdrewN ?_ _ | refine bdrew ?_ | refine balloc0 ?_ | refine balloc ?_ ?_ | (apply btrans0; rotate_left; assumption) | (apply btrans; rotate_left; assumption)) | exact Below.refl _ _ | assumption | (apply btrans0; rotate_left; assumption) | (apply btrans; rotate_left; assumption) | (simp; done) | omega | (simp; omega))))).mono ?_
        rw [HDA.out]
        simp only
        rintro e w1 ⟨rfl, hb1⟩
        have hB1 : Below w.heap.size w w1 := (by repeat' (first | with_reducible (first | refine bset ?_ ?_ | exact Below.refl _ _ | assumption | refine bdrewN ?_ _ | refine bdrew ?_ | refine balloc0 ?_ | refine balloc ?_ ?_ | (apply btrans0; rotate_left; assumption) | (apply btrans; rotate_left; assumption)) | exact Below.refl _ _ | assumption | (apply btrans0; rotate_left; assumption) | (apply btrans; rotate_left; assumption) | (simp; done) | omega | (simp; omega)))
        clear hb1
        go_wp2_with fail
        refine (rreadint_any s n k 0 _ (by omega) HRS.out).mono ?_
        rintro e w2 ⟨rfl, rfl⟩
        go_wp2_with fail
        go_ret2
        exact ⟨rfl, (by repeat' (first | with_reducible (first | refine bset ?_ ?_ | exact Below.refl _ _ | assumption | refine bdrewN ?_ _ | refine bdrew ?_ | refine balloc0 ?_ | refine balloc ?_ ?_ | (apply btrans0; rotate_left; assumption) | (apply btrans; rotate_left; assumption)) | exact Below.refl _ _ | assumption | (apply btrans0; rotate_left; assumption) | (apply btrans; rotate_left; assumption) | (simp; done) | omega | (simp; omega)))⟩
      · have n2 : 1099511627776 < n := by omega
        clear hn
        go_enter Try.func33, Try.ntmps33
        simp only [bunC]
        go_wp2_with fail
        refine (rdata_any b _ 1 _ (HR.out.below' (by repeat' (first | with_reducible (first | refine bset ?_ ?_ | exact Below.refl _ _ | assumption | refine bdrewN ?_ _ | refine bdrew ?_ | refine balloc0 ?_ | refine balloc ?_ ?_ | (apply btrans0; rotate_left; assumption) | (apply btrans; rotate_left; assumption)) | exact Below.refl _ _ | assumption | (apply btrans0; rotate_left; assumption) | (apply btrans; rotate_left; assumption) | (simp; done) | omega | (simp; omega))))).mono ?_
        rw [HDA.out]
        simp only
        rintro e w1 ⟨rfl, hb1⟩
        have hB1 : Below w.heap.size w w1 := (by repeat' (first | with_reducible (first | refine bset ?_ ?_ | exact Below.refl _ _ | assumption | refine bdrewN ?_ _ | refine bdrew ?_ | refine balloc0 ?_ | refine balloc ?_ ?_ | (apply btrans0; rotate_left; assumption) | (apply btrans; rotate_left; assumption)) | exact Below.refl _ _ | assumption | (apply btrans0; rotate_left; assumption) | (apply btrans; rotate_left; assumption) | (simp; done) | omega | (simp; omega)))
        clear hb1
        go_wp2_with fail
        refine (rreadint_any s n k 0 _ (by omega) HRS.out).mono ?_
        rintro e w2 ⟨rfl, rfl⟩
        go_wp2_with fail
        go_ret2
        exact ⟨rfl, (by repeat' (first | with_reducible (first | refine bset ?_ ?_ | exact Below.refl _ _ | assumption | refine bdrewN ?_ _ | refine bdrew ?_ | refine balloc0 ?_ | refine balloc ?_ ?_ | (apply btrans0; rotate_left; assumption) | (apply btrans; rotate_left; assumption)) | exact Below.refl _ _ | assumption | (apply btrans0; rotate_left; assumption) | (apply btrans; rotate_left; assumption) | (simp; done) | omega | (simp; omega)))⟩
end Go.Proofs.Ythgokfceakbjlaa
