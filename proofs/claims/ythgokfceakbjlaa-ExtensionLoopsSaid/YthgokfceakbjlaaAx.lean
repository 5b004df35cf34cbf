/- Layer 14, the reference: hops, Hops. -/
import Derived.Test.YthgokfceakbjlaaAw
set_option linter.unusedVariables false
set_option linter.unusedSimpArgs false
namespace Go.Proofs.Ythgokfceakbjlaa
open Go Go.RowKit
attribute [local go_sem] B_getElem B_size B_app B_extract B_get B_toList

theorem num2_R1 {s : List UInt8} {n k e : Int} (h : readS s = (n, k, e)) (he : e ≠ 0) : num2 s = none := by
  unfold num2; rw [rdNs, h]; simp only; rw [if_pos he]
theorem num2_R {s : List UInt8} {n m j f : Int} {k : Nat} (h : readS s = (n, (k : Int), 0)) (h2 : readS (s.drop k) = (m, j, f)) :
    num2 s = if f = 0 ∧ (k : Int) + j = (s.length : Int) ∧ fitB n m = true then some [n, m] else none := by
  unfold num2
  rw [rdNs, h]
  simp only [Int.toNat_natCast]
  rw [if_neg (by simp), rdNs, h2]
  simp only
  obtain ⟨p1, p2, p3, _, _⟩ := (readS_ok h).1 rfl
  by_cases hf : f = 0
  · subst hf
    obtain ⟨q1, q2, q3, _, _⟩ := (readS_ok h2).1 rfl
    rw [if_neg (by simp)]
    simp only [rdNs, Nat.add_zero, List.getD_cons_zero, List.getD_cons_succ, true_and]
    unfold fitB
    by_cases hk : (k : Int) + j = (s.length : Int)
    · by_cases hn : 1 ≤ n ∧ n ≤ 255 ∧ 0 ≤ m ∧ m ≤ n
      · rw [if_pos ⟨by omega, hn⟩, if_pos ⟨hk, decide_eq_true hn⟩]
      · rw [if_neg (fun x => hn x.2), if_neg (fun x => hn (of_decide_eq_true x.2))]
    · rw [if_neg (fun x => hk (by omega)), if_neg (fun x => hk x.1)]
  · rw [if_pos hf, if_neg (fun x => hf x.1)]
set_option maxRecDepth 100000 in
set_option maxHeartbeats 4000000 in
theorem rhop0_any (b : Bun) (u : Value) (w : World) (h : RBlks w w.heap.size u b.blocks) (hv : chkE b = 0) :
    Calls Try.prog 34 #[.agg (bunC b u).toArray] w fun e w' => e = .returned (.tuple #[.int .i64 (hopS b).1, .int .i64 (hopS b).2.1, .int .i64 (hopS b).2.2]) ∧ Below w.heap.size w w' := by
  have HR := Lib.hid h
  obtain ⟨a, c, rfl, h1, h2, h3, h4⟩ := h
  clear h1 h2 h3 h4
  obtain ⟨⟨s, E⟩, hda⟩ : ∃ q, dataS b 2 = q := ⟨_, rfl⟩
  have HDA := Lib.hid hda
  obtain ⟨⟨A, AC, AE⟩, hag⟩ : ∃ q, hopS b = q := ⟨_, rfl⟩
  rw [hag]
  simp only
  have hga := getS_data hv hda
  unfold hopS at hag
  have bad : getS b 2 = ([], 11) → A = 0 ∧ AC = 0 ∧ AE = 11 := fun hg => by
    rw [hg] at hag
    simp only [List.getD_nil, Prod.mk.injEq] at hag
    exact ⟨hag.1.symm, hag.2.1.symm, hag.2.2.symm⟩
  rcases hga with ⟨rfl, hg⟩ | ⟨rfl, hs, hg⟩
  · rw [hg] at hag
    simp only [Prod.mk.injEq] at hag
    obtain ⟨rfl, rfl, rfl⟩ := hag
    clear hda hg hv bad
    go_enter Try.func34, Try.ntmps34
    simp only [bunC]
    go_wp2_with fail
    refine (rdata_any b _ 2 _ (HR.out.below' (by repeat' (first | with_reducible (first | refine bset ?_ ?_ | exact Below.refl _ _ | assumption | refine bdrewN ?_ _ | refine bdrew ?_ | refine balloc0 ?_ | refine balloc ?_ ?_ | (apply btrans0; rotate_left; assumption) | (apply btrans; rotate_left; assumption)) | exact Below.refl _ _ | assumption | (apply btrans0; rotate_left; assumption) | (apply btrans; rotate_left; assumption) | (simp; done) | omega | (simp; omega))))).mono ?_
    rw [HDA.out]
    simp only
    rintro e w1 ⟨rfl, hb1⟩
    have hB1 : Below w.heap.size w w1 := (by repeat' (first | with_reducible (first | refine bset ?_ ?_ | exact Below.refl _ _ | assumption | refine bdrewN ?_ _ | refine bdrew ?_ | refine balloc0 ?_ | refine balloc ?_ ?_ | (apply btrans0; rotate_left; assumption) | (apply btrans; rotate_left; assumption)) | exact Below.refl _ _ | assumption | (apply btrans0; rotate_left; assumption) | (apply btrans; rotate_left; assumption) | (simp; done) | omega | (simp; omega)))
    clear hb1
    go_wp2_with fail
    go_ret3
    exact ⟨rfl, (by repeat' (first | with_reducible (first | refine bset ?_ ?_ | exact Below.refl _ _ | assumption | refine bdrewN ?_ _ | refine bdrew ?_ | refine balloc0 ?_ | refine balloc ?_ ?_ | (apply btrans0; rotate_left; assumption) | (apply btrans; rotate_left; assumption)) | exact Below.refl _ _ | assumption | (apply btrans0; rotate_left; assumption) | (apply btrans; rotate_left; assumption) | (simp; done) | omega | (simp; omega)))⟩
  · obtain ⟨⟨n, k, E2⟩, hrs⟩ : ∃ q, readS s = q := ⟨_, rfl⟩
    rw [show dat 2 s = num2 s from by unfold dat; simp] at hg
    have HRS := Lib.hid hrs
    by_cases he : E2 = 0
    case neg =>
      rw [num2_R1 hrs he] at hg
      obtain ⟨rfl, rfl, rfl⟩ := bad hg
      have he2 : (E2 != 0) = true := by rw [bne_iff_ne]; exact he
      clear hg he hag bad hrs hda hv
      go_enter Try.func34, Try.ntmps34
      simp only [bunC]
      go_wp2_with fail
      refine (rdata_any b _ 2 _ (HR.out.below' (by repeat' (first | with_reducible (first | refine bset ?_ ?_ | exact Below.refl _ _ | assumption | refine bdrewN ?_ _ | refine bdrew ?_ | refine balloc0 ?_ | refine balloc ?_ ?_ | (apply btrans0; rotate_left; assumption) | (apply btrans; rotate_left; assumption)) | exact Below.refl _ _ | assumption | (apply btrans0; rotate_left; assumption) | (apply btrans; rotate_left; assumption) | (simp; done) | omega | (simp; omega))))).mono ?_
      rw [HDA.out]
      simp only
      rintro e w1 ⟨rfl, hb1⟩
      have hB1 : Below w.heap.size w w1 := (by repeat' (first | with_reducible (first | refine bset ?_ ?_ | exact Below.refl _ _ | assumption | refine bdrewN ?_ _ | refine bdrew ?_ | refine balloc0 ?_ | refine balloc ?_ ?_ | (apply btrans0; rotate_left; assumption) | (apply btrans; rotate_left; assumption)) | exact Below.refl _ _ | assumption | (apply btrans0; rotate_left; assumption) | (apply btrans; rotate_left; assumption) | (simp; done) | omega | (simp; omega)))
      clear hb1
      go_wp2_with fail
      refine (rreadint_any s n k E2 _ (by omega) HRS.out).mono ?_
      rintro e w2 ⟨rfl, rfl⟩
      go_wp2_with fail
      go_ret3
      exact ⟨rfl, (by repeat' (first | with_reducible (first | refine bset ?_ ?_ | exact Below.refl _ _ | assumption | refine bdrewN ?_ _ | refine bdrew ?_ | refine balloc0 ?_ | refine balloc ?_ ?_ | (apply btrans0; rotate_left; assumption) | (apply btrans; rotate_left; assumption)) | exact Below.refl _ _ | assumption | (apply btrans0; rotate_left; assumption) | (apply btrans; rotate_left; assumption) | (simp; done) | omega | (simp; omega)))⟩
    subst he
    obtain ⟨q1, q2, q3, _, _⟩ := (readS_ok hrs).1 rfl
    obtain ⟨kn, rfl⟩ : ∃ kn : Nat, k = kn := ⟨k.toNat, by omega⟩
    obtain ⟨⟨m, j, E3⟩, hrs2⟩ : ∃ q, readS (s.drop kn) = q := ⟨_, rfl⟩
    rw [num2_R hrs hrs2] at hg
    have HRS2 := Lib.hid hrs2
    have i3 : (s.drop kn).take (s.length - kn) = s.drop kn := List.take_of_length_le (by rw [List.length_drop]; exact Nat.le_refl _)
    have i0 : (0 : Int) ≤ (kn : Int) := by omega
    have i1 : (kn : Int) ≤ (s.length : Int) := by omega
    by_cases hf : E3 = 0
    case neg =>
      rw [if_neg (fun x => hf x.1)] at hg
      obtain ⟨rfl, rfl, rfl⟩ := bad hg
      have hf2 : (E3 != 0) = true := by rw [bne_iff_ne]; exact hf
      clear hg hf hag bad hrs hrs2 hda hv
      go_enter Try.func34, Try.ntmps34
      simp only [bunC]
      go_wp2_with fail
      refine (rdata_any b _ 2 _ (HR.out.below' (by repeat' (first | with_reducible (first | refine bset ?_ ?_ | exact Below.refl _ _ | assumption | refine bdrewN ?_ _ | refine bdrew ?_ | refine balloc0 ?_ | refine balloc ?_ ?_ | (apply btrans0; rotate_left; assumption) | (apply btrans; rotate_left; assumption)) | exact Below.refl _ _ | assumption | (apply btrans0; rotate_left; assumption) | (apply btrans; rotate_left; assumption) | (simp; done) | omega | (simp; omega))))).mono ?_
      rw [HDA.out]
      simp only
      rintro e w1 ⟨rfl, hb1⟩
      have hB1 : Below w.heap.size w w1 := (by repeat' (first | with_reducible (first | refine bset ?_ ?_ | exact Below.refl _ _ | assumption | refine bdrewN ?_ _ | refine bdrew ?_ | refine balloc0 ?_ | refine balloc ?_ ?_ | (apply btrans0; rotate_left; assumption) | (apply btrans; rotate_left; assumption)) | exact Below.refl _ _ | assumption | (apply btrans0; rotate_left; assumption) | (apply btrans; rotate_left; assumption) | (simp; done) | omega | (simp; omega)))
      clear hb1
      go_wp2_with fail
      refine (rreadint_any s n (kn : Int) 0 _ (by omega) HRS.out).mono ?_
      rintro e w2 ⟨rfl, rfl⟩
      go_wp2_with fail
      refine (rreadint_any (s.drop kn) m j E3 _ (by rw [List.length_drop]; omega) HRS2.out).mono ?_
      rintro e w2 ⟨rfl, rfl⟩
      go_wp2_with fail
      go_ret3
      exact ⟨rfl, (by repeat' (first | with_reducible (first | refine bset ?_ ?_ | exact Below.refl _ _ | assumption | refine bdrewN ?_ _ | refine bdrew ?_ | refine balloc0 ?_ | refine balloc ?_ ?_ | (apply btrans0; rotate_left; assumption) | (apply btrans; rotate_left; assumption)) | exact Below.refl _ _ | assumption | (apply btrans0; rotate_left; assumption) | (apply btrans; rotate_left; assumption) | (simp; done) | omega | (simp; omega)))⟩
    subst hf
    obtain ⟨r1, r2, r3, _, _⟩ := (readS_ok hrs2).1 rfl
    by_cases hk : (kn : Int) + j = (s.length : Int)
    case neg =>
      rw [if_neg (fun x => hk x.2.1)] at hg
      obtain ⟨rfl, rfl, rfl⟩ := bad hg
      have hk2 : ((kn : Int) + j != (s.length : Int)) = true := by rw [bne_iff_ne]; exact hk
      have hk3 : ((kn : Int) + j == (s.length : Int)) = false := beq_eq_false_iff_ne.2 hk
      clear hg hk hag bad hrs hrs2 hda hv
      go_enter Try.func34, Try.ntmps34
      simp only [bunC]
      go_wp2_with fail
      refine (rdata_any b _ 2 _ (HR.out.below' (by repeat' (first | with_reducible (first | refine bset ?_ ?_ | exact Below.refl _ _ | assumption | refine bdrewN ?_ _ | refine bdrew ?_ | refine balloc0 ?_ | refine balloc ?_ ?_ | (apply btrans0; rotate_left; assumption) | (apply btrans; rotate_left; assumption)) | exact Below.refl _ _ | assumption | (apply btrans0; rotate_left; assumption) | (apply btrans; rotate_left; assumption) | (simp; done) | omega | (simp; omega))))).mono ?_
      rw [HDA.out]
      simp only
      rintro e w1 ⟨rfl, hb1⟩
      have hB1 : Below w.heap.size w w1 := (by repeat' (first | with_reducible (first | refine bset ?_ ?_ | exact Below.refl _ _ | assumption | refine bdrewN ?_ _ | refine bdrew ?_ | refine balloc0 ?_ | refine balloc ?_ ?_ | (apply btrans0; rotate_left; assumption) | (apply btrans; rotate_left; assumption)) | exact Below.refl _ _ | assumption | (apply btrans0; rotate_left; assumption) | (apply btrans; rotate_left; assumption) | (simp; done) | omega | (simp; omega)))
      clear hb1
      go_wp2_with fail
      refine (rreadint_any s n (kn : Int) 0 _ (by omega) HRS.out).mono ?_
      rintro e w2 ⟨rfl, rfl⟩
      go_wp2_with fail
      refine (rreadint_any (s.drop kn) m j 0 _ (by rw [List.length_drop]; omega) HRS2.out).mono ?_
      rintro e w2 ⟨rfl, rfl⟩
      go_wp2_with fail
      go_ret3
      exact ⟨rfl, (by repeat' (first | with_reducible (first | refine bset ?_ ?_ | exact Below.refl _ _ | assumption | refine bdrewN ?_ _ | refine bdrew ?_ | refine balloc0 ?_ | refine balloc ?_ ?_ | (apply btrans0; rotate_left; assumption) | (apply btrans; rotate_left; assumption)) | exact Below.refl _ _ | assumption | (apply btrans0; rotate_left; assumption) | (apply btrans; rotate_left; assumption) | (simp; done) | omega | (simp; omega)))⟩
    have hk2 : ((kn : Int) + j != (s.length : Int)) = false := by rw [hk]; simp
    have hk3 : ((kn : Int) + j == (s.length : Int)) = true := by rw [hk]; simp
    obtain ⟨ft, hft⟩ : ∃ q, fitB n m = q := ⟨_, rfl⟩
    have HFT := Lib.hid hft
    cases ft with
    | false =>
      rw [if_neg (fun x => by rw [hft] at x; exact absurd x.2.2 (by simp))] at hg
      obtain ⟨rfl, rfl, rfl⟩ := bad hg
      clear hg hk hag bad hrs hrs2 hda hv hft
      go_enter Try.func34, Try.ntmps34
      simp only [bunC]
      go_wp2_with fail
      refine (rdata_any b _ 2 _ (HR.out.below' (by repeat' (first | with_reducible (first | refine bset ?_ ?_ | exact Below.refl _ _ | assumption | refine bdrewN ?_ _ | refine bdrew ?_ | refine balloc0 ?_ | refine balloc ?_ ?_ | (apply btrans0; rotate_left; assumption) | (apply btrans; rotate_left; assumption)) | exact Below.refl _ _ | assumption | (apply btrans0; rotate_left; assumption) | (apply btrans; rotate_left; assumption) | (simp; done) | omega | (simp; omega))))).mono ?_
      rw [HDA.out]
      simp only
      rintro e w1 ⟨rfl, hb1⟩
      have hB1 : Below w.heap.size w w1 := (by repeat' (first | with_reducible (first | refine bset ?_ ?_ | exact Below.refl _ _ | assumption | refine bdrewN ?_ _ | refine bdrew ?_ | refine balloc0 ?_ | refine balloc ?_ ?_ | (apply btrans0; rotate_left; assumption) | (apply btrans; rotate_left; assumption)) | exact Below.refl _ _ | assumption | (apply btrans0; rotate_left; assumption) | (apply btrans; rotate_left; assumption) | (simp; done) | omega | (simp; omega)))
      clear hb1
      go_wp2_with fail
      refine (rreadint_any s n (kn : Int) 0 _ (by omega) HRS.out).mono ?_
      rintro e w2 ⟨rfl, rfl⟩
      go_wp2_with fail
      refine (rreadint_any (s.drop kn) m j 0 _ (by rw [List.length_drop]; omega) HRS2.out).mono ?_
      rintro e w2 ⟨rfl, rfl⟩
      go_wp2_with fail
      refine (rfits_any n m _).mono ?_
      rw [HFT.out]
      rintro e w2 ⟨rfl, rfl⟩
      go_wp2_with fail
      go_ret3
      exact ⟨rfl, (by repeat' (first | with_reducible (first | refine bset ?_ ?_ | exact Below.refl _ _ | assumption | refine bdrewN ?_ _ | refine bdrew ?_ | refine balloc0 ?_ | refine balloc ?_ ?_ | (apply btrans0; rotate_left; assumption) | (apply btrans; rotate_left; assumption)) | exact Below.refl _ _ | assumption | (apply btrans0; rotate_left; assumption) | (apply btrans; rotate_left; assumption) | (simp; done) | omega | (simp; omega)))⟩
    | true =>
      rw [if_pos ⟨rfl, hk, hft⟩] at hg
      rw [hg] at hag
      simp only [List.getD_cons_zero, List.getD_cons_succ, Prod.mk.injEq] at hag
      obtain ⟨rfl, rfl, rfl⟩ := hag
      clear hg hk bad hrs hrs2 hda hv hft
      go_enter Try.func34, Try.ntmps34
      simp only [bunC]
      go_wp2_with fail
      refine (rdata_any b _ 2 _ (HR.out.below' (by repeat' (first | with_reducible (first | refine bset ?_ ?_ | exact Below.refl _ _ | assumption | refine bdrewN ?_ _ | refine bdrew ?_ | refine balloc0 ?_ | refine balloc ?_ ?_ | (apply btrans0; rotate_left; assumption) | (apply btrans; rotate_left; assumption)) | exact Below.refl _ _ | assumption | (apply btrans0; rotate_left; assumption) | (apply btrans; rotate_left; assumption) | (simp; done) | omega | (simp; omega))))).mono ?_
      rw [HDA.out]
      simp only
      rintro e w1 ⟨rfl, hb1⟩
      have hB1 : Below w.heap.size w w1 := (by repeat' (first | with_reducible (first | refine bset ?_ ?_ | exact Below.refl _ _ | assumption | refine bdrewN ?_ _ | refine bdrew ?_ | refine balloc0 ?_ | refine balloc ?_ ?_ | (apply btrans0; rotate_left; assumption) | (apply btrans; rotate_left; assumption)) | exact Below.refl _ _ | assumption | (apply btrans0; rotate_left; assumption) | (apply btrans; rotate_left; assumption) | (simp; done) | omega | (simp; omega)))
      clear hb1
      go_wp2_with fail
      refine (rreadint_any s n (kn : Int) 0 _ (by omega) HRS.out).mono ?_
      rintro e w2 ⟨rfl, rfl⟩
      go_wp2_with fail
      refine (rreadint_any (s.drop kn) m j 0 _ (by rw [List.length_drop]; omega) HRS2.out).mono ?_
      rintro e w2 ⟨rfl, rfl⟩
      go_wp2_with fail
      refine (rfits_any n m _).mono ?_
      rw [HFT.out]
      rintro e w2 ⟨rfl, rfl⟩
      go_wp2_with fail
      go_ret3
      exact ⟨rfl, (by repeat' (first | with_reducible (first | refine bset ?_ ?_ | exact Below.refl _ _ | assumption | refine bdrewN ?_ _ | refine bdrew ?_ | refine balloc0 ?_ | refine balloc ?_ ?_ | (apply btrans0; rotate_left; assumption) | (apply btrans; rotate_left; assumption)) | exact Below.refl _ _ | assumption | (apply btrans0; rotate_left; assumption) | (apply btrans; rotate_left; assumption) | (simp; done) | omega | (simp; omega)))⟩
set_option maxRecDepth 100000 in
set_option maxHeartbeats 4000000 in
theorem rhops_any (b : Bun) (u : Value) (w : World) (h : RBlks w w.heap.size u b.blocks) (hf : Fits b) :
    Calls Try.prog 14 #[.agg (bunC b u).toArray] w fun e w' => e = .returned (.tuple #[.int .i64 (hopS b).1, .int .i64 (hopS b).2.1, .int .i64 (hopS b).2.2]) ∧ Below w.heap.size w w' := by
  have HF := Lib.hid hf
  have HR := Lib.hid h
  obtain ⟨a, c, rfl, h1, h2, h3, h4⟩ := h
  clear h1 h2 h3 h4 hf
  obtain ⟨E, hE⟩ : ∃ q, chkE b = q := ⟨_, rfl⟩
  have HE := Lib.hid hE
  by_cases z : E = 0
  case neg =>
    have z' : (E != 0) = true := by rw [bne_iff_ne]; exact z
    have HG : Hid (hopS b = (0, 0, 1)) := Lib.hid (by first | exact getS_bad (by rw [hE]; exact z) | (unfold ageS; rw [getS_bad (by rw [hE]; exact z)]; rfl) | (unfold hopS; rw [getS_bad (by rw [hE]; exact z)]; rfl))
    clear hE z
    go_enter Try.func14, Try.ntmps14
    simp only [bunC]
    go_wp2_with fail
    refine (rcheck_any b _ _ (HR.out.below' (by repeat' (first | with_reducible (first | refine bset ?_ ?_ | exact Below.refl _ _ | assumption | refine bdrewN ?_ _ | refine bdrew ?_ | refine balloc0 ?_ | refine balloc ?_ ?_ | (apply btrans0; rotate_left; assumption) | (apply btrans; rotate_left; assumption)) | exact Below.refl _ _ | assumption | (apply btrans0; rotate_left; assumption) | (apply btrans; rotate_left; assumption) | (simp; done) | omega | (simp; omega)))) HF.out).mono ?_
    rw [HE.out]
    rintro e w1 ⟨rfl, hb1⟩
    have hB1 : Below w.heap.size w w1 := (by repeat' (first | with_reducible (first | refine bset ?_ ?_ | exact Below.refl _ _ | assumption | refine bdrewN ?_ _ | refine bdrew ?_ | refine balloc0 ?_ | refine balloc ?_ ?_ | (apply btrans0; rotate_left; assumption) | (apply btrans; rotate_left; assumption)) | exact Below.refl _ _ | assumption | (apply btrans0; rotate_left; assumption) | (apply btrans; rotate_left; assumption) | (simp; done) | omega | (simp; omega)))
    have z1 : w.heap.size < w1.heap.size := by have := hb1.size; simp at this; omega
    have A1 : w1.heap[w.heap.size]? = some (.cells (bunC b (.slice a b.blocks.length c)).toArray 28 (0, 0)) := (hb1.block _ (by simp)).trans heap_new
    have ca := fun o => cellB A1 o
    simp only [bunC] at ca
    clear A1 hb1
    go_wp2_with fail
    go_ret3
    rw [HG.out]
    exact ⟨rfl, (by repeat' (first | with_reducible (first | refine bset ?_ ?_ | exact Below.refl _ _ | assumption | refine bdrewN ?_ _ | refine bdrew ?_ | refine balloc0 ?_ | refine balloc ?_ ?_ | (apply btrans0; rotate_left; assumption) | (apply btrans; rotate_left; assumption)) | exact Below.refl _ _ | assumption | (apply btrans0; rotate_left; assumption) | (apply btrans; rotate_left; assumption) | (simp; done) | omega | (simp; omega)))⟩
  subst z
  clear hE
  go_enter Try.func14, Try.ntmps14
  simp only [bunC]
  go_wp2_with fail
  refine (rcheck_any b _ _ (HR.out.below' (by repeat' (first | with_reducible (first | refine bset ?_ ?_ | exact Below.refl _ _ | assumption | refine bdrewN ?_ _ | refine bdrew ?_ | refine balloc0 ?_ | refine balloc ?_ ?_ | (apply btrans0; rotate_left; assumption) | (apply btrans; rotate_left; assumption)) | exact Below.refl _ _ | assumption | (apply btrans0; rotate_left; assumption) | (apply btrans; rotate_left; assumption) | (simp; done) | omega | (simp; omega)))) HF.out).mono ?_
  rw [HE.out]
  rintro e w1 ⟨rfl, hb1⟩
  have hB1 : Below w.heap.size w w1 := (by repeat' (first | with_reducible (first | refine bset ?_ ?_ | exact Below.refl _ _ | assumption | refine bdrewN ?_ _ | refine bdrew ?_ | refine balloc0 ?_ | refine balloc ?_ ?_ | (apply btrans0; rotate_left; assumption) | (apply btrans; rotate_left; assumption)) | exact Below.refl _ _ | assumption | (apply btrans0; rotate_left; assumption) | (apply btrans; rotate_left; assumption) | (simp; done) | omega | (simp; omega)))
  have z1 : w.heap.size < w1.heap.size := by have := hb1.size; simp at this; omega
  have A1 : w1.heap[w.heap.size]? = some (.cells (bunC b (.slice a b.blocks.length c)).toArray 28 (0, 0)) := (hb1.block _ (by simp)).trans heap_new
  have ca := fun o => cellB A1 o
  simp only [bunC] at ca
  clear A1 hb1
  go_wp2_with fail
  refine (rhop0_any b _ _ (HR.out.below' (by repeat' (first | with_reducible (first | refine bset ?_ ?_ | exact Below.refl _ _ | assumption | refine bdrewN ?_ _ | refine bdrew ?_ | refine balloc0 ?_ | refine balloc ?_ ?_ | (apply btrans0; rotate_left; assumption) | (apply btrans; rotate_left; assumption)) | exact Below.refl _ _ | assumption | (apply btrans0; rotate_left; assumption) | (apply btrans; rotate_left; assumption) | (simp; done) | omega | (simp; omega)))) HE.out).mono ?_
  rintro e w2 ⟨rfl, hb2⟩
  go_wp2_with fail
  go_ret3
  exact ⟨rfl, (by repeat' (first | with_reducible (first | refine bset ?_ ?_ | exact Below.refl _ _ | assumption | refine bdrewN ?_ _ | refine bdrew ?_ | refine balloc0 ?_ | refine balloc ?_ ?_ | (apply btrans0; rotate_left; assumption) | (apply btrans; rotate_left; assumption)) | exact Below.refl _ _ | assumption | (apply btrans0; rotate_left; assumption) | (apply btrans; rotate_left; assumption) | (simp; done) | omega | (simp; omega)))⟩
end Go.Proofs.Ythgokfceakbjlaa
