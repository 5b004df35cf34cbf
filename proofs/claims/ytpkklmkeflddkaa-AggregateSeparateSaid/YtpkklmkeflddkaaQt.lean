/- Chapter 19: the reference's Separate and Is. -/
import Derived.Test.YtpkklmkeflddkaaQs
import Derived.Test.YtpkklmkeflddkaaJs
set_option linter.unusedVariables false
set_option linter.unusedSimpArgs false
namespace Go.Proofs.Ytpkklmkeflddkaa
open Go.RowKit Go.Shelf
attribute [local go_sem] Oper.semAt_some
attribute [local go_sem] B_getElem B_size B_app B_extract B_get B_toList
attribute [local go_sem ↓] neEndI
theorem partsN_err {n : Nat} {s t : List UInt8} {k e : Int} (h : textS s = (t, k, e)) (he : e ≠ 0) : partsN (n + 1) s = none := by simp [partsN, h, he]
theorem partsN_bad {n : Nat} {s t : List UInt8} {k : Int} (h : textS s = (t, k, 0)) (he : (decBS t).2 ≠ 0) : partsN (n + 1) s = none := by simp [partsN, h, he]
theorem partsN_ok {n : Nat} {s t : List UInt8} {k : Int} (h : textS s = (t, k, 0)) (he : (decBS t).2 = 0) : partsN (n + 1) s = (partsN n (s.drop k.toNat)).map (fun q => ((decBS t).1 :: q.1, q.2)) := by simp [partsN, h, he]
def rsepT (b : Bun) (l : List Bun) (r : List UInt8) : List Bun × Int := if r ≠ [] ∨ rjS l 0 ≠ 0 ∨ b.crt < crtS l ∨ endS l < expS b then ([], 11) else match l with
  | [] => ([], 11)
  | y :: m => if farB b y = true then ([], 11) else (y :: m, 0)
def rsepM (b : Bun) (q : Option (List Bun × List UInt8)) : List Bun × Int := match q with
  | none => ([], 11)
  | some (l, r) => rsepT b l r
set_option maxRecDepth 100000 in
set_option maxHeartbeats 16000000 in
theorem rsep_any (b : Bun) (u : Value) (w : World) (h : RBlks w w.heap.size u b.blocks) (hf : Fits b) :
    Calls Try.prog 12 #[.agg (bunC b u).toArray] w (SepPost (rsepS b) w) := by
  obtain ⟨E, hE⟩ : ∃ E, chkE b = E := ⟨_, rfl⟩
  obtain ⟨ua, uc, rfl, _⟩ := id h
  have HR := Lib.hid h
  have HF := Lib.hid hf
  have HE := Lib.hid hE
  clear h hf
  by_cases z : E = 0
  case neg =>
    have z' : (E != 0) = true := by simpa using z
    have HS : Hid (rsepS b = ([], E)) := Lib.hid (by unfold rsepS; rw [if_pos (by rw [hE]; exact z), hE])
    rw [HS.out]
    clear hE z
    go_enter Try.func12, Try.ntmps12
    simp only [bunC]
    go_wp2_with fail
    refine (rcheck_any b _ _ (HR.out.below (C := w.heap.size) (by repeat' (first | with_reducible (first | refine bset ?_ ?_ | exact Below.refl _ _ | assumption | refine bdrewN ?_ _ | refine bdrew ?_ | refine balloc0 ?_ | refine balloc ?_ ?_ | (apply btrans0; rotate_left; assumption) | (apply btrans; rotate_left; assumption)) | exact Below.refl _ _ | assumption | (apply btrans0; rotate_left; assumption) | (apply btrans; rotate_left; assumption) | (simp; done) | omega | (simp; omega))) (Nat.le_refl _) (by simp)) HF.out).mono ?_
    rintro e w1 ⟨rfl, hb1⟩
    rw [HE.out]
    go_wp2
    go_ret2
    exact ⟨_, rfl, rbuns_nil _ _, (by repeat' (first | with_reducible (first | refine bset ?_ ?_ | exact Below.refl _ _ | assumption | refine bdrewN ?_ _ | refine bdrew ?_ | refine balloc0 ?_ | refine balloc ?_ ?_ | (apply btrans0; rotate_left; assumption) | (apply btrans; rotate_left; assumption)) | exact Below.refl _ _ | assumption | (apply btrans0; rotate_left; assumption) | (apply btrans; rotate_left; assumption) | (simp; done) | omega | (simp; omega)))⟩
  subst z
  obtain ⟨J, hJ⟩ : ∃ J, joinedB b = J := ⟨_, rfl⟩
  have HJ := Lib.hid hJ
  cases J with
  | false =>
    have HS : Hid (rsepS b = ([], 8)) := Lib.hid (by unfold rsepS; rw [if_neg (by simpa using hE), if_pos hJ])
    rw [HS.out]
    clear hE hJ
    go_enter Try.func12, Try.ntmps12
    simp only [bunC]
    go_wp2_with fail
    refine (rcheck_any b _ _ (HR.out.below (C := w.heap.size) (by repeat' (first | with_reducible (first | refine bset ?_ ?_ | exact Below.refl _ _ | assumption | refine bdrewN ?_ _ | refine bdrew ?_ | refine balloc0 ?_ | refine balloc ?_ ?_ | (apply btrans0; rotate_left; assumption) | (apply btrans; rotate_left; assumption)) | exact Below.refl _ _ | assumption | (apply btrans0; rotate_left; assumption) | (apply btrans; rotate_left; assumption) | (simp; done) | omega | (simp; omega))) (Nat.le_refl _) (by simp)) HF.out).mono ?_
    rintro e w1 ⟨rfl, hb1⟩
    rw [HE.out]
    have z1 : w.heap.size < w1.heap.size := by have := hb1.size; (try simp at this); omega
    have hB1 : Below w.heap.size w w1 := btrans0 (balloc0 (Below.refl _ _)) hb1
    have G1 : w1.heap[w.heap.size]? = some (.cells (bunC b (.slice ua b.blocks.length uc)).toArray 28 (0, 0)) := (hb1.block _ (by simp)).trans heap_new
    have ca := fun o => cellB G1 o
    simp only [bunC] at ca
    have HG1 := Lib.hid G1
    have HB1 := Lib.hid hB1
    clear G1 hb1
    go_wp2_with fail
    refine (flagged_any b _ _ (HR.out.below HB1.out (Nat.le_refl _) HB1.out.size) HE.out).mono ?_
    rintro e w2 ⟨rfl, hb2⟩
    rw [HJ.out]
    have hB1 := HB1.out
    go_wp2
    go_ret2
    exact ⟨_, rfl, rbuns_nil _ _, (by repeat' (first | with_reducible (first | refine bset ?_ ?_ | exact Below.refl _ _ | assumption | refine bdrewN ?_ _ | refine bdrew ?_ | refine balloc0 ?_ | refine balloc ?_ ?_ | (apply btrans0; rotate_left; assumption) | (apply btrans; rotate_left; assumption)) | exact Below.refl _ _ | assumption | (apply btrans0; rotate_left; assumption) | (apply btrans; rotate_left; assumption) | (simp; done) | omega | (simp; omega)))⟩
  | true =>
  have hp := chk_pay hE
  obtain ⟨⟨n, k, e⟩, hr⟩ : ∃ q, readS b.payload = q := ⟨_, rfl⟩
  have hS : rsepS b = if e ≠ 0 ∨ n < 1 ∨ 4096 < n then (([], 11) : List Bun × Int) else rsepM b (partsN n.toNat (b.payload.drop k.toNat)) := by
    unfold rsepS
    rw [if_neg (by simpa using hE), if_neg (by rw [hJ]; simp), hr]
    rfl
  have HS := Lib.hid hS
  have hok := readS_ok hr
  have HRD := Lib.hid hr
  have hpl : b.payload.length ≤ 1000000 := by omega
  clear hE hJ hS hr
  by_cases he : e = 0
  case neg =>
    have de : (e != 0) = true := by rw [bne_iff_ne]; exact he
    have HS2 : Hid (rsepS b = ([], 11)) := Lib.hid (by rw [HS.out, if_pos (Or.inl he)])
    rw [HS2.out]
    clear hok he
    go_enter Try.func12, Try.ntmps12
    simp only [bunC]
    go_wp2_with fail
    refine (rcheck_any b _ _ (HR.out.below (C := w.heap.size) (by repeat' (first | with_reducible (first | refine bset ?_ ?_ | exact Below.refl _ _ | assumption | refine bdrewN ?_ _ | refine bdrew ?_ | refine balloc0 ?_ | refine balloc ?_ ?_ | (apply btrans0; rotate_left; assumption) | (apply btrans; rotate_left; assumption)) | exact Below.refl _ _ | assumption | (apply btrans0; rotate_left; assumption) | (apply btrans; rotate_left; assumption) | (simp; done) | omega | (simp; omega))) (Nat.le_refl _) (by simp)) HF.out).mono ?_
    rintro e w1 ⟨rfl, hb1⟩
    rw [HE.out]
    have z1 : w.heap.size < w1.heap.size := by have := hb1.size; (try simp at this); omega
    have hB1 : Below w.heap.size w w1 := btrans0 (balloc0 (Below.refl _ _)) hb1
    have G1 : w1.heap[w.heap.size]? = some (.cells (bunC b (.slice ua b.blocks.length uc)).toArray 28 (0, 0)) := (hb1.block _ (by simp)).trans heap_new
    have ca := fun o => cellB G1 o
    simp only [bunC] at ca
    have HG1 := Lib.hid G1
    have HB1 := Lib.hid hB1
    clear G1 hb1
    go_wp2_with fail
    refine (flagged_any b _ _ (HR.out.below HB1.out (Nat.le_refl _) HB1.out.size) HE.out).mono ?_
    rintro e w2 ⟨rfl, hb2⟩
    rw [HJ.out]
    have hB2 : Below w.heap.size w w2 := btrans0 HB1.out hb2
    have z2 : w.heap.size < w2.heap.size := by have := hb2.size; omega
    have G2 := (hb2.block _ z1).trans HG1.out
    clear ca
    have ca := fun o => cellB G2 o
    simp only [bunC] at ca
    have HG2 := Lib.hid G2
    clear G2 hb2
    go_wp2_with fail
    refine (rreadint_any b.payload _ _ _ _ (by omega) HRD.out).mono ?_
    rintro e w3 ⟨rfl, rfl⟩
    go_wp2
    go_ret2
    exact ⟨_, rfl, rbuns_nil _ _, (by repeat' (first | with_reducible (first | refine bset ?_ ?_ | exact Below.refl _ _ | assumption | refine bdrewN ?_ _ | refine bdrew ?_ | refine balloc0 ?_ | refine balloc ?_ ?_ | (apply btrans0; rotate_left; assumption) | (apply btrans; rotate_left; assumption)) | exact Below.refl _ _ | assumption | (apply btrans0; rotate_left; assumption) | (apply btrans; rotate_left; assumption) | (simp; done) | omega | (simp; omega)))⟩
  subst he
  by_cases hn1 : n < 1
  · have d1 : decide (n < 1) = true := decide_eq_true hn1
    have HS2 : Hid (rsepS b = ([], 11)) := Lib.hid (by rw [HS.out, if_pos (Or.inr (Or.inl hn1))])
    rw [HS2.out]
    clear hok hn1
    go_enter Try.func12, Try.ntmps12
    simp only [bunC]
    go_wp2_with fail
    refine (rcheck_any b _ _ (HR.out.below (C := w.heap.size) (by repeat' (first | with_reducible (first | refine bset ?_ ?_ | exact Below.refl _ _ | assumption | refine bdrewN ?_ _ | refine bdrew ?_ | refine balloc0 ?_ | refine balloc ?_ ?_ | (apply btrans0; rotate_left; assumption) | (apply btrans; rotate_left; assumption)) | exact Below.refl _ _ | assumption | (apply btrans0; rotate_left; assumption) | (apply btrans; rotate_left; assumption) | (simp; done) | omega | (simp; omega))) (Nat.le_refl _) (by simp)) HF.out).mono ?_
    rintro e w1 ⟨rfl, hb1⟩
    rw [HE.out]
    have z1 : w.heap.size < w1.heap.size := by have := hb1.size; (try simp at this); omega
    have hB1 : Below w.heap.size w w1 := btrans0 (balloc0 (Below.refl _ _)) hb1
    have G1 : w1.heap[w.heap.size]? = some (.cells (bunC b (.slice ua b.blocks.length uc)).toArray 28 (0, 0)) := (hb1.block _ (by simp)).trans heap_new
    have ca := fun o => cellB G1 o
    simp only [bunC] at ca
    have HG1 := Lib.hid G1
    have HB1 := Lib.hid hB1
    clear G1 hb1
    go_wp2_with fail
    refine (flagged_any b _ _ (HR.out.below HB1.out (Nat.le_refl _) HB1.out.size) HE.out).mono ?_
    rintro e w2 ⟨rfl, hb2⟩
    rw [HJ.out]
    have hB2 : Below w.heap.size w w2 := btrans0 HB1.out hb2
    have z2 : w.heap.size < w2.heap.size := by have := hb2.size; omega
    have G2 := (hb2.block _ z1).trans HG1.out
    clear ca
    have ca := fun o => cellB G2 o
    simp only [bunC] at ca
    have HG2 := Lib.hid G2
    clear G2 hb2
    go_wp2_with fail
    refine (rreadint_any b.payload _ _ _ _ (by omega) HRD.out).mono ?_
    rintro e w3 ⟨rfl, rfl⟩
    go_wp2
    go_ret2
    exact ⟨_, rfl, rbuns_nil _ _, (by repeat' (first | with_reducible (first | refine bset ?_ ?_ | exact Below.refl _ _ | assumption | refine bdrewN ?_ _ | refine bdrew ?_ | refine balloc0 ?_ | refine balloc ?_ ?_ | (apply btrans0; rotate_left; assumption) | (apply btrans; rotate_left; assumption)) | exact Below.refl _ _ | assumption | (apply btrans0; rotate_left; assumption) | (apply btrans; rotate_left; assumption) | (simp; done) | omega | (simp; omega)))⟩
  by_cases hn2 : 4096 < n
  · have d1 : decide (n < 1) = false := decide_eq_false hn1
    have d2 : decide (n > 4096) = true := decide_eq_true hn2
    have HS2 : Hid (rsepS b = ([], 11)) := Lib.hid (by rw [HS.out, if_pos (Or.inr (Or.inr hn2))])
    rw [HS2.out]
    clear hok hn1 hn2
    go_enter Try.func12, Try.ntmps12
    simp only [bunC]
    go_wp2_with fail
    refine (rcheck_any b _ _ (HR.out.below (C := w.heap.size) (by repeat' (first | with_reducible (first | refine bset ?_ ?_ | exact Below.refl _ _ | assumption | refine bdrewN ?_ _ | refine bdrew ?_ | refine balloc0 ?_ | refine balloc ?_ ?_ | (apply btrans0; rotate_left; assumption) | (apply btrans; rotate_left; assumption)) | exact Below.refl _ _ | assumption | (apply btrans0; rotate_left; assumption) | (apply btrans; rotate_left; assumption) | (simp; done) | omega | (simp; omega))) (Nat.le_refl _) (by simp)) HF.out).mono ?_
    rintro e w1 ⟨rfl, hb1⟩
    rw [HE.out]
    have z1 : w.heap.size < w1.heap.size := by have := hb1.size; (try simp at this); omega
    have hB1 : Below w.heap.size w w1 := btrans0 (balloc0 (Below.refl _ _)) hb1
    have G1 : w1.heap[w.heap.size]? = some (.cells (bunC b (.slice ua b.blocks.length uc)).toArray 28 (0, 0)) := (hb1.block _ (by simp)).trans heap_new
    have ca := fun o => cellB G1 o
    simp only [bunC] at ca
    have HG1 := Lib.hid G1
    have HB1 := Lib.hid hB1
    clear G1 hb1
    go_wp2_with fail
    refine (flagged_any b _ _ (HR.out.below HB1.out (Nat.le_refl _) HB1.out.size) HE.out).mono ?_
    rintro e w2 ⟨rfl, hb2⟩
    rw [HJ.out]
    have hB2 : Below w.heap.size w w2 := btrans0 HB1.out hb2
    have z2 : w.heap.size < w2.heap.size := by have := hb2.size; omega
    have G2 := (hb2.block _ z1).trans HG1.out
    clear ca
    have ca := fun o => cellB G2 o
    simp only [bunC] at ca
    have HG2 := Lib.hid G2
    clear G2 hb2
    go_wp2_with fail
    refine (rreadint_any b.payload _ _ _ _ (by omega) HRD.out).mono ?_
    rintro e w3 ⟨rfl, rfl⟩
    go_wp2
    go_ret2
    exact ⟨_, rfl, rbuns_nil _ _, (by repeat' (first | with_reducible (first | refine bset ?_ ?_ | exact Below.refl _ _ | assumption | refine bdrewN ?_ _ | refine bdrew ?_ | refine balloc0 ?_ | refine balloc ?_ ?_ | (apply btrans0; rotate_left; assumption) | (apply btrans; rotate_left; assumption)) | exact Below.refl _ _ | assumption | (apply btrans0; rotate_left; assumption) | (apply btrans; rotate_left; assumption) | (simp; done) | omega | (simp; omega)))⟩
  obtain ⟨n, rfl⟩ : ∃ m : Nat, n = m := ⟨n.toNat, by omega⟩
  obtain ⟨g1, _, g3, _, _⟩ := hok.1 rfl
  obtain ⟨kk, rfl⟩ : ∃ kk : Nat, k = kk := ⟨k.toNat, by omega⟩
  have hkl : kk ≤ b.payload.length := by omega
  have hn3 : n ≤ 4096 := by omega
  have d1 : decide ((n : Int) < 1) = false := decide_eq_false hn1
  have d2 : decide ((n : Int) > 4096) = false := decide_eq_false hn2
  have HS2 : Hid (rsepS b = rsepM b (partsN n (b.payload.drop kk))) := Lib.hid (by rw [HS.out, if_neg (by simp; omega), Int.toNat_natCast, Int.toNat_natCast])
  clear hok hn1 hn2 HS
  go_enter Try.func12, Try.ntmps12
  simp only [bunC]
  go_wp2_with fail
  refine (rcheck_any b _ _ (HR.out.below (C := w.heap.size) (by repeat' (first | with_reducible (first | refine bset ?_ ?_ | exact Below.refl _ _ | assumption | refine bdrewN ?_ _ | refine bdrew ?_ | refine balloc0 ?_ | refine balloc ?_ ?_ | (apply btrans0; rotate_left; assumption) | (apply btrans; rotate_left; assumption)) | exact Below.refl _ _ | assumption | (apply btrans0; rotate_left; assumption) | (apply btrans; rotate_left; assumption) | (simp; done) | omega | (simp; omega))) (Nat.le_refl _) (by simp)) HF.out).mono ?_
  rintro e w1 ⟨rfl, hb1⟩
  rw [HE.out]
  have z1 : w.heap.size < w1.heap.size := by have := hb1.size; (try simp at this); omega
  have hB1 : Below w.heap.size w w1 := btrans0 (balloc0 (Below.refl _ _)) hb1
  have G1 : w1.heap[w.heap.size]? = some (.cells (bunC b (.slice ua b.blocks.length uc)).toArray 28 (0, 0)) := (hb1.block _ (by simp)).trans heap_new
  have ca := fun o => cellB G1 o
  simp only [bunC] at ca
  have HG1 := Lib.hid G1
  have HB1 := Lib.hid hB1
  clear G1 hb1
  go_wp2_with fail
  refine (flagged_any b _ _ (HR.out.below HB1.out (Nat.le_refl _) HB1.out.size) HE.out).mono ?_
  rintro e w2 ⟨rfl, hb2⟩
  rw [HJ.out]
  have hB2 : Below w.heap.size w w2 := btrans0 HB1.out hb2
  have z2 : w.heap.size < w2.heap.size := by have := hb2.size; omega
  have G2 := (hb2.block _ z1).trans HG1.out
  clear ca
  have ca := fun o => cellB G2 o
  simp only [bunC] at ca
  have HG2 := Lib.hid G2
  clear G2 hb2
  go_wp2_with fail
  refine (rreadint_any b.payload _ _ _ _ (by omega) HRD.out).mono ?_
  rintro e w3 ⟨rfl, rfl⟩
  obtain ⟨i0, hin, hz0, hz1, hz2⟩ := info_parts infoBun
  have HB2 := Lib.hid hB2
  clear hB2
  go_wp2
  go_loopw [6, 8, 9] (fun av ov kv wr => ∃ (k a : Nat) (ol : List Bun) (vo : Value), ov = vo ∧ av = .int .i64 (a : Int) ∧ kv = .int .i64 (k : Int) ∧ k ≤ n ∧ a ≤ b.payload.length ∧ ol.length = k ∧ Hid (∀ x ∈ ol, chkE x = 0) ∧
      Hid (partsN n (b.payload.drop kk) = (partsN (n - k) (b.payload.drop a)).map (fun q => (ol ++ q.1, q.2))) ∧ OutB wr 0 w2.heap.size vo ol ∧ Below w.heap.size w wr ∧ Hid (wr.heap[w.heap.size]? = some (.cells (bunC b (.slice ua b.blocks.length uc)).toArray 28 (0, 0))) ∧ w2.heap.size ≤ wr.heap.size) (fun _ _ kv _ => n - (intOf kv).toNat)
  case atStart =>
    exact ⟨0, kk, [], _, rfl, rfl, rfl, Nat.zero_le _, hkl, rfl, Lib.hid (by simp), Lib.hid (by simp), OutB.nil _ _ _, HB2.out, HG2, Nat.le_refl _⟩
  case round =>
    obtain ⟨k, a, ol, vo, e7, rfl, rfl, hk, hal, hol, HALL, HPN, hO, hB, H0, hsz⟩ := hrel
    have e7' := e7.symm
    clear e7
    subst e7'
    have cb := fun o => cellB H0.out o
    simp only [bunC] at cb
    have z0 : w.heap.size < wr.heap.size := by omega
    have ha0 : (0 : Int) ≤ (a : Int) := by omega
    have hal2 : (a : Int) ≤ (b.payload.length : Int) := by omega
    by_cases hlt : k < n
    · obtain ⟨m, hm⟩ : ∃ m, n - k = m + 1 := ⟨n - k - 1, by omega⟩
      rw [hm] at HPN
      obtain ⟨s, hs⟩ : ∃ q, b.payload.drop a = q := ⟨_, rfl⟩
      have hsl : s.length ≤ 4096 := by rw [← hs, List.length_drop]; omega
      have hsa : s.length + a = b.payload.length := by rw [← hs, List.length_drop]; omega
      have HSD := Lib.hid hs
      rw [hs] at HPN
      obtain ⟨⟨t, tk, te⟩, ht⟩ : ∃ q, textS s = q := ⟨_, rfl⟩
      have htok := textS_ok ht
      have HT := Lib.hid ht
      clear hs ht
      by_cases hte : te = 0
      case neg =>
        have dte : (te != 0) = true := by rw [bne_iff_ne]; exact hte
        have HN : Hid (rsepS b = ([], 11)) := Lib.hid (by rw [HS2.out, HPN.out, partsN_err HT.out hte]; rfl)
        clear hte htok
        go_wp2_with fail
        rw [show List.take (b.payload.length - a) (List.drop a b.payload) = s from by rw [HSD.out]; exact List.take_of_length_le (by omega)]
        refine (rreadtext_any s _ _ _ _ (by omega) HT.out).mono ?_
        rintro e w3 ⟨rfl, rfl⟩
        go_wp2
        go_ret2
        rw [HN.out]
        exact ⟨_, rfl, rbuns_nil _ _, (by repeat' (first | with_reducible (first | refine bset ?_ ?_ | exact Below.refl _ _ | assumption | refine bdrewN ?_ _ | refine bdrew ?_ | refine balloc0 ?_ | refine balloc ?_ ?_ | (apply btrans0; rotate_left; assumption) | (apply btrans; rotate_left; assumption)) | exact Below.refl _ _ | assumption | (apply btrans0; rotate_left; assumption) | (apply btrans; rotate_left; assumption) | (simp; done) | omega | (simp; omega)))⟩
      subst hte
      obtain ⟨g1, g2, g3⟩ := htok.1 rfl
      obtain ⟨tn, rfl⟩ : ∃ tn : Nat, tk = tn := ⟨tk.toNat, by omega⟩
      obtain ⟨⟨c, E⟩, hE⟩ : ∃ q, decBS t = q := ⟨_, rfl⟩
      have HD := Lib.hid hE
      have ht9 : t.length ≤ 1000000000 := by omega
      clear htok hE
      by_cases hE0 : E = 0
      case neg =>
        have dE : (E != 0) = true := by rw [bne_iff_ne]; exact hE0
        have HN : Hid (rsepS b = ([], 11)) := Lib.hid (by rw [HS2.out, HPN.out, partsN_bad HT.out (by rw [HD.out]; exact hE0)]; rfl)
        clear hE0
        go_wp2_with fail
        rw [show List.take (b.payload.length - a) (List.drop a b.payload) = s from by rw [HSD.out]; exact List.take_of_length_le (by omega)]
        refine (rreadtext_any s _ _ _ _ (by omega) HT.out).mono ?_
        rintro e w3 ⟨rfl, rfl⟩
        go_wp2_with fail
        refine (rbunDecode_any t _ ht9).mono ?_
        rw [HD.out]
        unfold DecPost
        rintro e w4 ⟨u4, rfl, hr4, hrf, hb4⟩
        obtain ⟨a4, c4, rfl, _⟩ := id hr4
        simp only [bunC]
        clear hr4 hrf
        go_wp2
        go_ret2
        rw [HN.out]
        exact ⟨_, rfl, rbuns_nil _ _, (by repeat' (first | with_reducible (first | refine bset ?_ ?_ | exact Below.refl _ _ | assumption | refine bdrewN ?_ _ | refine bdrew ?_ | refine balloc0 ?_ | refine balloc ?_ ?_ | (apply btrans0; rotate_left; assumption) | (apply btrans; rotate_left; assumption)) | exact Below.refl _ _ | assumption | (apply btrans0; rotate_left; assumption) | (apply btrans; rotate_left; assumption) | (simp; done) | omega | (simp; omega)))⟩
      subst hE0
      have hcv := (enc_decB HD.out).2
      have HPN2 : Hid (partsN n (b.payload.drop kk) = (partsN (n - (k + 1)) (b.payload.drop (a + tn))).map (fun q => (ol ++ [c] ++ q.1, q.2))) := Lib.hid (by
        rw [HPN.out, partsN_ok HT.out (by rw [HD.out]), HD.out, show n - (k + 1) = m from by omega, ← HSD.out, List.drop_drop, Int.toNat_natCast, Option.map_map]
        congr 1
        funext q
        simp [Function.comp])
      have HALL2 : Hid (∀ x ∈ ol ++ [c], chkE x = 0) := Lib.hid (fun x hx => by
        rcases List.mem_append.1 hx with hx | hx
        · exact HALL.out x hx
        · simp at hx; subst hx; exact hcv)
      clear hcv
      have hnn := OutB.lt hO
      go_wp2_with fail
      rw [show List.take (b.payload.length - a) (List.drop a b.payload) = s from by rw [HSD.out]; exact List.take_of_length_le (by omega)]
      refine (rreadtext_any s _ _ _ _ (by omega) HT.out).mono ?_
      rintro e w3 ⟨rfl, rfl⟩
      go_wp2_with fail
      refine (rbunDecode_any t _ ht9).mono ?_
      rw [HD.out]
      unfold DecPost
      rintro e w4 ⟨u4, rfl, hr4, hrf, hb4⟩
      simp only at hr4
      obtain ⟨a4, c4, rfl, _⟩ := id hr4
      have HR4 := Lib.hid hr4
      have HRF := Lib.hid hrf
      obtain ⟨rs, hrs1, hrs2, hrs3⟩ := hO.below hb4
      have hs4 := hb4.size
      have HOL := Lib.hid hol
      rw [hol] at hrs2
      have hk2 : k ≤ 4096 := by omega
      clear hr4 hrf
      simp only [bunC]
      go_wp2_with (at_builtin; refine wpList_append_lies _ rfl _ _ _ rfl w2.heap.size 28 i0 _ 12 120 Try.underlying30 hin hz0 hz1 hz2 rfl (by omega) vo k _ rfl ((hrs2.alloc _).alloc _) ⟨w4.heap.size + 1, 0, none⟩ 1 1 (bunC c (.slice a4 c.blocks.length c4)) rfl rfl (news_one (t := 28) (by exact heap_new' (by simp))) (bunC_one rfl) (by omega) (by simp only [maxLen]; omega) (by omega) (by simp; omega) (w4.heap.size + 2) (by simp) ?_; intro g cap w5 hown5 hg5 hat5 hlt5)
      have hvo : ∀ q, vo.ownBlock = some q → w2.heap.size ≤ q ∧ q < wr.heap.size := hnn
      have keep5 : ∀ q, q < wr.heap.size → q < w2.heap.size → w5.heap[q]? = wr.heap[q]? := fun q hq hq2 =>
        (((hg5.block q (by simp; omega) (fun e => by have := (hvo q e.symm).1; omega)).trans (Below.heap_alloc _ _ _ (by simp; omega))).trans (Below.heap_alloc _ _ _ (by omega))).trans (hb4.block q hq)
      have hB5 : Below w.heap.size w w5 := hB.trans ((balloc (balloc (hb4.mono (by omega)) (by omega)) (by simp; omega)).grown hg5 (by simp; omega) (fun q hq => by have := hvo q hq; omega))
      have hst := OutB.step (W0 := wr) (N := 0) (cap := cap) (W := (w4.alloc (.cells (bunC c (.slice a4 c.blocks.length c4)).toArray 28)).alloc (.cells (bunC c (.slice a4 c.blocks.length c4)).toArray 28)) hrs1 (by rw [HOL.out]; exact (hrs2.alloc _).alloc _) (fun r hr => (hrs3 r hr).keep (fun q o hq => (World.cell?_alloc_lt _ _ _ (by show q < _; simp; have := hq.1; omega)).trans (World.cell?_alloc_lt _ _ _ hq.1)) (fun q hq => ⟨by have := hq.1; simp; omega, hq.2⟩))
        (fun q hq => (hvo q hq).2) (RBlksD.new_ HR4.out HRF.out (fun q o h1 h2 => (World.cell?_alloc_lt _ _ _ (by show q < _; simp; omega)).trans (World.cell?_alloc_lt _ _ _ h2)) (Nat.le_refl _) (by simp; omega)) (by omega) (by simp) (by omega) (by rw [HOL.out]; exact hown5) hg5 (by rcases hat5 with h | h; exact .inl h; exact .inr (by simpa using h))
      rw [HOL.out] at hst
      have HST := Lib.hid hst
      have g0 := Lib.hid ((keep5 w.heap.size (by omega) (by omega)).trans H0.out)
      have hz5 : w2.heap.size ≤ w5.heap.size := by have := hg5.size; simp at this; omega
      clear hst keep5 hown5 hat5 hvo hnn hg5 hb4 hrs1 hrs2 hrs3 hol
      go_wp2
      go_roundw
      case rel => exact ⟨k + 1, a + tn, ol ++ [c], _, rfl, by go_num, by go_num, by omega, by omega, by rw [List.length_append, HOL.out]; rfl, HALL2, HPN2, HST.out, hB5, g0, hz5⟩
      case measure => simp [intOf]; omega
    · obtain rfl : k = n := by omega
      rw [Nat.sub_self] at HPN
      have HS3 : Hid (rsepS b = rsepT b ol (b.payload.drop a)) := Lib.hid (by
        rw [HS2.out, HPN.out]
        simp [partsN, rsepM])
      have HL : Hid (∀ x ∈ ol, Fits x) := Lib.hid (fun x hx => fits_valid (HALL.out x hx))
      have hv := hO.rbuns
      obtain ⟨va, vc, rfl, _⟩ := id hv
      rw [hol] at hv
      have HV := Lib.hid hv
      have hz4 : w.heap.size < wr.heap.size := z0
      clear hv
      by_cases hat : a = b.payload.length
      case neg =>
        have dat : ((a : Int) != (b.payload.length : Int)) = true := by rw [bne_iff_ne]; omega
        have HN : Hid (rsepS b = ([], 11)) := Lib.hid (by rw [HS3.out]; unfold rsepT; rw [if_pos (Or.inl (by intro h; rw [List.drop_eq_nil_iff] at h; omega))])
        go_upto_region 21 with fail
        refine wp_region_plan (fun V => Below (wr).heap.size (wr) V) [0, 0, 1, 0, 0, 0, 0, 2, 0, 0, 0, 0, 2, 0, 0, 1, 0, 0, 0, 0, 2, 1, 3, 0, 0] [0, 1, 2, 3, 4, 5, 6, 7, 8, 9, 10, 11, 13, 14, 15, 12, 16, 17, 18, 19, 21, 20, 22, 23, 24] (by kernel_rfl) (by kernel_rfl) ?_ ?_
        case refine_1 => exact (by repeat' (first | with_reducible (first | refine bset ?_ ?_ | exact Below.refl _ _ | assumption | refine bdrewN ?_ _ | refine bdrew ?_ | refine balloc0 ?_ | refine balloc ?_ ?_ | (apply btrans0; rotate_left; assumption) | (apply btrans; rotate_left; assumption)) | exact Below.refl _ _ | assumption | (apply btrans0; rotate_left; assumption) | (apply btrans; rotate_left; assumption) | (simp; done) | omega | (simp; omega)))
        (iterate 7 (first | (refine plan_held rfl (by decide) (by rfl) (fun w1 hS => by (try (obtain ⟨_, _⟩ := bcell (hS rfl))); go_simp; rfl) ?_; simp only [Act.put, List.setIfInBounds_toArray, List.set_cons_zero, List.set_cons_succ]) | (refine plan_skip rfl (by decide) (by rfl) ?_; simp only [Act.put, List.setIfInBounds_toArray, List.set_cons_zero, List.set_cons_succ])))
        (refine plan_skipK rfl (by decide) (by rfl) (by repeat' (first | with_reducible (first | refine bset ?_ ?_ | exact Below.refl _ _ | assumption | refine bdrewN ?_ _ | refine bdrew ?_ | refine balloc0 ?_ | refine balloc ?_ ?_ | (apply btrans0; rotate_left; assumption) | (apply btrans; rotate_left; assumption)) | exact Below.refl _ _ | assumption | (apply btrans0; rotate_left; assumption) | (apply btrans; rotate_left; assumption) | (simp; done) | omega | (simp; omega))) ?_; simp only [Act.put, List.setIfInBounds_toArray, List.set_cons_zero, List.set_cons_succ])
        (iterate 7 (first | (refine plan_held rfl (by decide) (by rfl) (fun w1 hS => by (try (obtain ⟨_, _⟩ := bcell (hS rfl))); go_simp; rfl) ?_; simp only [Act.put, List.setIfInBounds_toArray, List.set_cons_zero, List.set_cons_succ]) | (refine plan_skip rfl (by decide) (by rfl) ?_; simp only [Act.put, List.setIfInBounds_toArray, List.set_cons_zero, List.set_cons_succ])))
        (refine plan_skipK rfl (by decide) (by rfl) (by repeat' (first | with_reducible (first | refine bset ?_ ?_ | exact Below.refl _ _ | assumption | refine bdrewN ?_ _ | refine bdrew ?_ | refine balloc0 ?_ | refine balloc ?_ ?_ | (apply btrans0; rotate_left; assumption) | (apply btrans; rotate_left; assumption)) | exact Below.refl _ _ | assumption | (apply btrans0; rotate_left; assumption) | (apply btrans; rotate_left; assumption) | (simp; done) | omega | (simp; omega))) ?_; simp only [Act.put, List.setIfInBounds_toArray, List.set_cons_zero, List.set_cons_succ])
        (iterate 5 (first | (refine plan_held rfl (by decide) (by rfl) (fun w1 hS => by (try (obtain ⟨_, _⟩ := bcell (hS rfl))); go_simp; rfl) ?_; simp only [Act.put, List.setIfInBounds_toArray, List.set_cons_zero, List.set_cons_succ]) | (refine plan_skip rfl (by decide) (by rfl) ?_; simp only [Act.put, List.setIfInBounds_toArray, List.set_cons_zero, List.set_cons_succ])))
        (refine plan_skipK rfl (by decide) (by rfl) (by repeat' (first | with_reducible (first | refine bset ?_ ?_ | exact Below.refl _ _ | assumption | refine bdrewN ?_ _ | refine bdrew ?_ | refine balloc0 ?_ | refine balloc ?_ ?_ | (apply btrans0; rotate_left; assumption) | (apply btrans; rotate_left; assumption)) | exact Below.refl _ _ | assumption | (apply btrans0; rotate_left; assumption) | (apply btrans; rotate_left; assumption) | (simp; done) | omega | (simp; omega))) ?_; simp only [Act.put, List.setIfInBounds_toArray, List.set_cons_zero, List.set_cons_succ])
        (refine plan_skipL rfl (by decide) (by rfl) ?_; simp only [Act.put, List.setIfInBounds_toArray, List.set_cons_zero, List.set_cons_succ])
        (iterate 2 (first | (refine plan_held rfl (by decide) (by rfl) (fun w1 hS => by (try (obtain ⟨_, _⟩ := bcell (hS rfl))); go_simp; rfl) ?_; simp only [Act.put, List.setIfInBounds_toArray, List.set_cons_zero, List.set_cons_succ]) | (refine plan_skip rfl (by decide) (by rfl) ?_; simp only [Act.put, List.setIfInBounds_toArray, List.set_cons_zero, List.set_cons_succ])))
        refine plan_done ?_
        go_wp2
        go_ret2
        rw [HN.out]
        exact ⟨_, rfl, rbuns_nil _ _, (by repeat' (first | with_reducible (first | refine bset ?_ ?_ | exact Below.refl _ _ | assumption | refine bdrewN ?_ _ | refine bdrew ?_ | refine balloc0 ?_ | refine balloc ?_ ?_ | (apply btrans0; rotate_left; assumption) | (apply btrans; rotate_left; assumption)) | exact Below.refl _ _ | assumption | (apply btrans0; rotate_left; assumption) | (apply btrans; rotate_left; assumption) | (simp; done) | omega | (simp; omega)))⟩

      have dat : ((a : Int) != (b.payload.length : Int)) = false := by rw [bne_eq_false_iff_eq]; omega
      have hdr : b.payload.drop a = [] := List.drop_eq_nil_iff.2 (by omega)
      obtain ⟨RJ, hRJ⟩ : ∃ q, rjS ol 0 = q := ⟨_, rfl⟩
      have HRJ := Lib.hid hRJ
      clear hat
      by_cases hrj : RJ = 0
      case neg =>
        have drj : (RJ != 0) = true := by rw [bne_iff_ne]; exact hrj
        have HN : Hid (rsepS b = ([], 11)) := Lib.hid (by rw [HS3.out]; unfold rsepT; rw [if_pos (Or.inr (Or.inl (by rw [hRJ]; exact hrj)))])
        clear hRJ hrj hdr
        go_upto_region 21 with fail
        refine wp_region_plan (fun V => Below (wr).heap.size (wr) V) [0, 0, 1, 0, 0, 0, 0, 2, 0, 0, 0, 0, 2, 0, 0, 1, 0, 0, 0, 0, 2, 1, 3, 0, 0] [0, 1, 2, 3, 4, 5, 6, 7, 8, 9, 10, 11, 13, 14, 15, 12, 16, 17, 18, 19, 21, 20, 22, 23, 24] (by kernel_rfl) (by kernel_rfl) ?_ ?_
        case refine_1 => exact (by repeat' (first | with_reducible (first | refine bset ?_ ?_ | exact Below.refl _ _ | assumption | refine bdrewN ?_ _ | refine bdrew ?_ | refine balloc0 ?_ | refine balloc ?_ ?_ | (apply btrans0; rotate_left; assumption) | (apply btrans; rotate_left; assumption)) | exact Below.refl _ _ | assumption | (apply btrans0; rotate_left; assumption) | (apply btrans; rotate_left; assumption) | (simp; done) | omega | (simp; omega)))
        (iterate 7 (first | (refine plan_held rfl (by decide) (by rfl) (fun w1 hS => by (try (obtain ⟨_, _⟩ := bcell (hS rfl))); go_simp; rfl) ?_; simp only [Act.put, List.setIfInBounds_toArray, List.set_cons_zero, List.set_cons_succ]) | (refine plan_skip rfl (by decide) (by rfl) ?_; simp only [Act.put, List.setIfInBounds_toArray, List.set_cons_zero, List.set_cons_succ])))
        (refine plan_keep rfl rfl (by rfl) (fun K hK => ?_); go_simp)
        refine (joinable_any ol _ 0 _ (HV.out.below'' (by repeat' (first | with_reducible (first | refine bset ?_ ?_ | exact Below.refl _ _ | assumption | refine bdrewN ?_ _ | refine bdrew ?_ | refine balloc0 ?_ | refine balloc ?_ ?_ | (apply btrans0; rotate_left; assumption) | (apply btrans; rotate_left; assumption)) | exact Below.refl _ _ | assumption | (apply btrans0; rotate_left; assumption) | (apply btrans; rotate_left; assumption) | (simp; done) | omega | (simp; omega)))) HL.out).mono ?_
        rw [HRJ.out]
        rintro e wc76 ⟨rfl, hbc76⟩
        (refine hK _ _ (by exact (by repeat' (first | with_reducible (first | refine bset ?_ ?_ | exact Below.refl _ _ | assumption | refine bdrewN ?_ _ | refine bdrew ?_ | refine balloc0 ?_ | refine balloc ?_ ?_ | (apply btrans0; rotate_left; assumption) | (apply btrans; rotate_left; assumption)) | exact Below.refl _ _ | assumption | (apply btrans0; rotate_left; assumption) | (apply btrans; rotate_left; assumption) | (simp; done) | omega | (simp; omega)))) ?_; clear hK K; (try simp only [Act.put, List.setIfInBounds_toArray, List.set_cons_zero, List.set_cons_succ]))
        (iterate 7 (first | (refine plan_held rfl (by decide) (by rfl) (fun w1 hS => by (try (obtain ⟨_, _⟩ := bcell (hS rfl))); go_simp; rfl) ?_; simp only [Act.put, List.setIfInBounds_toArray, List.set_cons_zero, List.set_cons_succ]) | (refine plan_skip rfl (by decide) (by rfl) ?_; simp only [Act.put, List.setIfInBounds_toArray, List.set_cons_zero, List.set_cons_succ])))
        (refine plan_skipK rfl (by decide) (by rfl) (by repeat' (first | with_reducible (first | refine bset ?_ ?_ | exact Below.refl _ _ | assumption | refine bdrewN ?_ _ | refine bdrew ?_ | refine balloc0 ?_ | refine balloc ?_ ?_ | (apply btrans0; rotate_left; assumption) | (apply btrans; rotate_left; assumption)) | exact Below.refl _ _ | assumption | (apply btrans0; rotate_left; assumption) | (apply btrans; rotate_left; assumption) | (simp; done) | omega | (simp; omega))) ?_; simp only [Act.put, List.setIfInBounds_toArray, List.set_cons_zero, List.set_cons_succ])
        (iterate 5 (first | (refine plan_held rfl (by decide) (by rfl) (fun w1 hS => by (try (obtain ⟨_, _⟩ := bcell (hS rfl))); go_simp; rfl) ?_; simp only [Act.put, List.setIfInBounds_toArray, List.set_cons_zero, List.set_cons_succ]) | (refine plan_skip rfl (by decide) (by rfl) ?_; simp only [Act.put, List.setIfInBounds_toArray, List.set_cons_zero, List.set_cons_succ])))
        (refine plan_skipK rfl (by decide) (by rfl) (by repeat' (first | with_reducible (first | refine bset ?_ ?_ | exact Below.refl _ _ | assumption | refine bdrewN ?_ _ | refine bdrew ?_ | refine balloc0 ?_ | refine balloc ?_ ?_ | (apply btrans0; rotate_left; assumption) | (apply btrans; rotate_left; assumption)) | exact Below.refl _ _ | assumption | (apply btrans0; rotate_left; assumption) | (apply btrans; rotate_left; assumption) | (simp; done) | omega | (simp; omega))) ?_; simp only [Act.put, List.setIfInBounds_toArray, List.set_cons_zero, List.set_cons_succ])
        (refine plan_skipL rfl (by decide) (by rfl) ?_; simp only [Act.put, List.setIfInBounds_toArray, List.set_cons_zero, List.set_cons_succ])
        (iterate 2 (first | (refine plan_held rfl (by decide) (by rfl) (fun w1 hS => by (try (obtain ⟨_, _⟩ := bcell (hS rfl))); go_simp; rfl) ?_; simp only [Act.put, List.setIfInBounds_toArray, List.set_cons_zero, List.set_cons_succ]) | (refine plan_skip rfl (by decide) (by rfl) ?_; simp only [Act.put, List.setIfInBounds_toArray, List.set_cons_zero, List.set_cons_succ])))
        refine plan_done ?_
        go_wp2
        go_ret2
        rw [HN.out]
        exact ⟨_, rfl, rbuns_nil _ _, (by repeat' (first | with_reducible (first | refine bset ?_ ?_ | exact Below.refl _ _ | assumption | refine bdrewN ?_ _ | refine bdrew ?_ | refine balloc0 ?_ | refine balloc ?_ ?_ | (apply btrans0; rotate_left; assumption) | (apply btrans; rotate_left; assumption)) | exact Below.refl _ _ | assumption | (apply btrans0; rotate_left; assumption) | (apply btrans; rotate_left; assumption) | (simp; done) | omega | (simp; omega)))⟩

      subst hrj
      obtain ⟨y, r, hyr⟩ : ∃ y r, ol = y :: r := by
        cases ol with
        | nil => exact absurd hRJ (by decide)
        | cons y r => exact ⟨y, r, rfl⟩
      obtain ⟨T, hT⟩ : ∃ q, crtS ol = q := ⟨_, rfl⟩
      obtain ⟨D, hD⟩ : ∃ q, endS ol = q := ⟨_, rfl⟩
      obtain ⟨X, hX⟩ : ∃ q, expS b = q := ⟨_, rfl⟩
      have HTT := Lib.hid hT
      have HDD := Lib.hid hD
      have HX := Lib.hid hX
      have hop : 0 < ol.length := by rw [hyr]; simp
      have hopI : (0 : Int) < (k : Int) := by omega
      have hopN : 0 < k := by omega
      obtain ⟨m4, hm4⟩ : ∃ q, decide (T > b.crt) = q := ⟨_, rfl⟩
      obtain ⟨m5, hm5⟩ : ∃ q, decide (D < X) = q := ⟨_, rfl⟩
      obtain ⟨m1, hm1⟩ : ∃ q, (y.src != b.src) = q := ⟨_, rfl⟩
      obtain ⟨m2, hm2⟩ : ∃ q, (y.dk != b.dk || y.dn != b.dn) = q := ⟨_, rfl⟩
      obtain ⟨m3, hm3⟩ : ∃ q, (y.prio != b.prio) = q := ⟨_, rfl⟩
      have HS4 : Hid (rsepS b = if (m4 || m5) = true then (([], 11) : List Bun × Int) else if (m1 || m2 || m3) = true then ([], 11) else (ol, 0)) := Lib.hid (by
        rw [HS3.out]
        unfold rsepT
        have hc : ∀ p q : Int, (p != q) = (q != p) := fun p q => bne_comm
        rw [hdr, hRJ, hT, hD, hX, ← hm4, ← hm5, ← hm1, ← hm2, ← hm3, hc y.src, hc y.dk, hc y.dn, hc y.prio, hyr]
        unfold farB
        simp only [Bool.or_eq_true, decide_eq_true_eq, ne_eq, gt_iff_lt, not_true_eq_false, false_or])
      have HOP := Lib.hid hop
      have HYR := Lib.hid hyr
      clear hRJ hT hD hX hyr hdr HS3
      cases m4 with
      | true =>
        go_upto_region 21 with fail
        refine wp_region_plan (fun V => Below (wr).heap.size (wr) V) [0, 0, 1, 0, 0, 0, 0, 2, 0, 0, 0, 0, 2, 0, 0, 1, 0, 0, 0, 0, 2, 1, 3, 0, 0] [0, 1, 2, 3, 4, 5, 6, 7, 8, 9, 10, 11, 13, 14, 15, 12, 16, 17, 18, 19, 21, 20, 22, 23, 24] (by kernel_rfl) (by kernel_rfl) ?_ ?_
        case refine_1 => exact (by repeat' (first | with_reducible (first | refine bset ?_ ?_ | exact Below.refl _ _ | assumption | refine bdrewN ?_ _ | refine bdrew ?_ | refine balloc0 ?_ | refine balloc ?_ ?_ | (apply btrans0; rotate_left; assumption) | (apply btrans; rotate_left; assumption)) | exact Below.refl _ _ | assumption | (apply btrans0; rotate_left; assumption) | (apply btrans; rotate_left; assumption) | (simp; done) | omega | (simp; omega)))
        (iterate 7 (first | (refine plan_held rfl (by decide) (by rfl) (fun w1 hS => by (try (obtain ⟨_, _⟩ := bcell (hS rfl))); go_simp; rfl) ?_; simp only [Act.put, List.setIfInBounds_toArray, List.set_cons_zero, List.set_cons_succ]) | (refine plan_skip rfl (by decide) (by rfl) ?_; simp only [Act.put, List.setIfInBounds_toArray, List.set_cons_zero, List.set_cons_succ])))
        (refine plan_keep rfl rfl (by rfl) (fun K hK => ?_); go_simp)
        refine (joinable_any ol _ 0 _ (HV.out.below'' (by repeat' (first | with_reducible (first | refine bset ?_ ?_ | exact Below.refl _ _ | assumption | refine bdrewN ?_ _ | refine bdrew ?_ | refine balloc0 ?_ | refine balloc ?_ ?_ | (apply btrans0; rotate_left; assumption) | (apply btrans; rotate_left; assumption)) | exact Below.refl _ _ | assumption | (apply btrans0; rotate_left; assumption) | (apply btrans; rotate_left; assumption) | (simp; done) | omega | (simp; omega)))) HL.out).mono ?_
        rw [HRJ.out]
        rintro e wc76 ⟨rfl, hbc76⟩
        (refine hK _ _ (by exact (by repeat' (first | with_reducible (first | refine bset ?_ ?_ | exact Below.refl _ _ | assumption | refine bdrewN ?_ _ | refine bdrew ?_ | refine balloc0 ?_ | refine balloc ?_ ?_ | (apply btrans0; rotate_left; assumption) | (apply btrans; rotate_left; assumption)) | exact Below.refl _ _ | assumption | (apply btrans0; rotate_left; assumption) | (apply btrans; rotate_left; assumption) | (simp; done) | omega | (simp; omega)))) ?_; clear hK K; (try simp only [Act.put, List.setIfInBounds_toArray, List.set_cons_zero, List.set_cons_succ]))
        (iterate 7 (first | (refine plan_held rfl (by decide) (by rfl) (fun w1 hS => by (try (obtain ⟨_, _⟩ := bcell (hS rfl))); go_simp; rfl) ?_; simp only [Act.put, List.setIfInBounds_toArray, List.set_cons_zero, List.set_cons_succ]) | (refine plan_skip rfl (by decide) (by rfl) ?_; simp only [Act.put, List.setIfInBounds_toArray, List.set_cons_zero, List.set_cons_succ])))
        (refine plan_keep rfl rfl (by rfl) (fun K hK => ?_); go_simp)
        refine (created_any ol _ _ (HV.out.below'' (by repeat' (first | with_reducible (first | refine bset ?_ ?_ | exact Below.refl _ _ | assumption | refine bdrewN ?_ _ | refine bdrew ?_ | refine balloc0 ?_ | refine balloc ?_ ?_ | (apply btrans0; rotate_left; assumption) | (apply btrans; rotate_left; assumption)) | exact Below.refl _ _ | assumption | (apply btrans0; rotate_left; assumption) | (apply btrans; rotate_left; assumption) | (simp; done) | omega | (simp; omega)))) HL.out).mono ?_
        rw [HTT.out]
        rintro e wc81 ⟨rfl, hbc81⟩
        (refine hK _ _ (by exact (by repeat' (first | with_reducible (first | refine bset ?_ ?_ | exact Below.refl _ _ | assumption | refine bdrewN ?_ _ | refine bdrew ?_ | refine balloc0 ?_ | refine balloc ?_ ?_ | (apply btrans0; rotate_left; assumption) | (apply btrans; rotate_left; assumption)) | exact Below.refl _ _ | assumption | (apply btrans0; rotate_left; assumption) | (apply btrans; rotate_left; assumption) | (simp; done) | omega | (simp; omega)))) ?_; clear hK K; (try simp only [Act.put, List.setIfInBounds_toArray, List.set_cons_zero, List.set_cons_succ]))
        (iterate 5 (first | (refine plan_held rfl (by decide) (by rfl) (fun w1 hS => by (try (obtain ⟨_, _⟩ := bcell (hS rfl))); go_simp; rfl) ?_; simp only [Act.put, List.setIfInBounds_toArray, List.set_cons_zero, List.set_cons_succ]) | (refine plan_skip rfl (by decide) (by rfl) ?_; simp only [Act.put, List.setIfInBounds_toArray, List.set_cons_zero, List.set_cons_succ])))
        (refine plan_skipK rfl (by decide) (by rfl) (by repeat' (first | with_reducible (first | refine bset ?_ ?_ | exact Below.refl _ _ | assumption | refine bdrewN ?_ _ | refine bdrew ?_ | refine balloc0 ?_ | refine balloc ?_ ?_ | (apply btrans0; rotate_left; assumption) | (apply btrans; rotate_left; assumption)) | exact Below.refl _ _ | assumption | (apply btrans0; rotate_left; assumption) | (apply btrans; rotate_left; assumption) | (simp; done) | omega | (simp; omega))) ?_; simp only [Act.put, List.setIfInBounds_toArray, List.set_cons_zero, List.set_cons_succ])
        (refine plan_skipL rfl (by decide) (by rfl) ?_; simp only [Act.put, List.setIfInBounds_toArray, List.set_cons_zero, List.set_cons_succ])
        (iterate 2 (first | (refine plan_held rfl (by decide) (by rfl) (fun w1 hS => by (try (obtain ⟨_, _⟩ := bcell (hS rfl))); go_simp; rfl) ?_; simp only [Act.put, List.setIfInBounds_toArray, List.set_cons_zero, List.set_cons_succ]) | (refine plan_skip rfl (by decide) (by rfl) ?_; simp only [Act.put, List.setIfInBounds_toArray, List.set_cons_zero, List.set_cons_succ])))
        refine plan_done ?_
        go_wp2
        go_ret2
        rw [HS4.out]
        exact ⟨_, rfl, rbuns_nil _ _, (by repeat' (first | with_reducible (first | refine bset ?_ ?_ | exact Below.refl _ _ | assumption | refine bdrewN ?_ _ | refine bdrew ?_ | refine balloc0 ?_ | refine balloc ?_ ?_ | (apply btrans0; rotate_left; assumption) | (apply btrans; rotate_left; assumption)) | exact Below.refl _ _ | assumption | (apply btrans0; rotate_left; assumption) | (apply btrans; rotate_left; assumption) | (simp; done) | omega | (simp; omega)))⟩

      | false =>
      cases m5 with
      | true =>
        go_upto_region 21 with fail
        refine wp_region_plan (fun V => Below (wr).heap.size (wr) V) [0, 0, 1, 0, 0, 0, 0, 2, 0, 0, 0, 0, 2, 0, 0, 1, 0, 0, 0, 0, 2, 1, 3, 0, 0] [0, 1, 2, 3, 4, 5, 6, 7, 8, 9, 10, 11, 13, 14, 15, 12, 16, 17, 18, 19, 21, 20, 22, 23, 24] (by kernel_rfl) (by kernel_rfl) ?_ ?_
        case refine_1 => exact (by repeat' (first | with_reducible (first | refine bset ?_ ?_ | exact Below.refl _ _ | assumption | refine bdrewN ?_ _ | refine bdrew ?_ | refine balloc0 ?_ | refine balloc ?_ ?_ | (apply btrans0; rotate_left; assumption) | (apply btrans; rotate_left; assumption)) | exact Below.refl _ _ | assumption | (apply btrans0; rotate_left; assumption) | (apply btrans; rotate_left; assumption) | (simp; done) | omega | (simp; omega)))
        (iterate 7 (first | (refine plan_held rfl (by decide) (by rfl) (fun w1 hS => by (try (obtain ⟨_, _⟩ := bcell (hS rfl))); go_simp; rfl) ?_; simp only [Act.put, List.setIfInBounds_toArray, List.set_cons_zero, List.set_cons_succ]) | (refine plan_skip rfl (by decide) (by rfl) ?_; simp only [Act.put, List.setIfInBounds_toArray, List.set_cons_zero, List.set_cons_succ])))
        (refine plan_keep rfl rfl (by rfl) (fun K hK => ?_); go_simp)
        refine (joinable_any ol _ 0 _ (HV.out.below'' (by repeat' (first | with_reducible (first | refine bset ?_ ?_ | exact Below.refl _ _ | assumption | refine bdrewN ?_ _ | refine bdrew ?_ | refine balloc0 ?_ | refine balloc ?_ ?_ | (apply btrans0; rotate_left; assumption) | (apply btrans; rotate_left; assumption)) | exact Below.refl _ _ | assumption | (apply btrans0; rotate_left; assumption) | (apply btrans; rotate_left; assumption) | (simp; done) | omega | (simp; omega)))) HL.out).mono ?_
        rw [HRJ.out]
        rintro e wc76 ⟨rfl, hbc76⟩
        (refine hK _ _ (by exact (by repeat' (first | with_reducible (first | refine bset ?_ ?_ | exact Below.refl _ _ | assumption | refine bdrewN ?_ _ | refine bdrew ?_ | refine balloc0 ?_ | refine balloc ?_ ?_ | (apply btrans0; rotate_left; assumption) | (apply btrans; rotate_left; assumption)) | exact Below.refl _ _ | assumption | (apply btrans0; rotate_left; assumption) | (apply btrans; rotate_left; assumption) | (simp; done) | omega | (simp; omega)))) ?_; clear hK K; (try simp only [Act.put, List.setIfInBounds_toArray, List.set_cons_zero, List.set_cons_succ]))
        (iterate 7 (first | (refine plan_held rfl (by decide) (by rfl) (fun w1 hS => by (try (obtain ⟨_, _⟩ := bcell (hS rfl))); go_simp; rfl) ?_; simp only [Act.put, List.setIfInBounds_toArray, List.set_cons_zero, List.set_cons_succ]) | (refine plan_skip rfl (by decide) (by rfl) ?_; simp only [Act.put, List.setIfInBounds_toArray, List.set_cons_zero, List.set_cons_succ])))
        (refine plan_keep rfl rfl (by rfl) (fun K hK => ?_); go_simp)
        refine (created_any ol _ _ (HV.out.below'' (by repeat' (first | with_reducible (first | refine bset ?_ ?_ | exact Below.refl _ _ | assumption | refine bdrewN ?_ _ | refine bdrew ?_ | refine balloc0 ?_ | refine balloc ?_ ?_ | (apply btrans0; rotate_left; assumption) | (apply btrans; rotate_left; assumption)) | exact Below.refl _ _ | assumption | (apply btrans0; rotate_left; assumption) | (apply btrans; rotate_left; assumption) | (simp; done) | omega | (simp; omega)))) HL.out).mono ?_
        rw [HTT.out]
        rintro e wc81 ⟨rfl, hbc81⟩
        (refine hK _ _ (by exact (by repeat' (first | with_reducible (first | refine bset ?_ ?_ | exact Below.refl _ _ | assumption | refine bdrewN ?_ _ | refine bdrew ?_ | refine balloc0 ?_ | refine balloc ?_ ?_ | (apply btrans0; rotate_left; assumption) | (apply btrans; rotate_left; assumption)) | exact Below.refl _ _ | assumption | (apply btrans0; rotate_left; assumption) | (apply btrans; rotate_left; assumption) | (simp; done) | omega | (simp; omega)))) ?_; clear hK K; (try simp only [Act.put, List.setIfInBounds_toArray, List.set_cons_zero, List.set_cons_succ]))
        (iterate 5 (first | (refine plan_held rfl (by decide) (by rfl) (fun w1 hS => by (try (obtain ⟨_, _⟩ := bcell (hS rfl))); go_simp; rfl) ?_; simp only [Act.put, List.setIfInBounds_toArray, List.set_cons_zero, List.set_cons_succ]) | (refine plan_skip rfl (by decide) (by rfl) ?_; simp only [Act.put, List.setIfInBounds_toArray, List.set_cons_zero, List.set_cons_succ])))
        (refine plan_keep rfl rfl (by rfl) (fun K hK => ?_); go_simp)
        refine (ends_any ol _ _ (HV.out.below'' (by repeat' (first | with_reducible (first | refine bset ?_ ?_ | exact Below.refl _ _ | assumption | refine bdrewN ?_ _ | refine bdrew ?_ | refine balloc0 ?_ | refine balloc ?_ ?_ | (apply btrans0; rotate_left; assumption) | (apply btrans; rotate_left; assumption)) | exact Below.refl _ _ | assumption | (apply btrans0; rotate_left; assumption) | (apply btrans; rotate_left; assumption) | (simp; done) | omega | (simp; omega)))) HL.out hop HALL.out).mono ?_
        rw [HDD.out]
        rintro e wc89 ⟨rfl, hbc89⟩
        (refine hK _ _ (by exact (by repeat' (first | with_reducible (first | refine bset ?_ ?_ | exact Below.refl _ _ | assumption | refine bdrewN ?_ _ | refine bdrew ?_ | refine balloc0 ?_ | refine balloc ?_ ?_ | (apply btrans0; rotate_left; assumption) | (apply btrans; rotate_left; assumption)) | exact Below.refl _ _ | assumption | (apply btrans0; rotate_left; assumption) | (apply btrans; rotate_left; assumption) | (simp; done) | omega | (simp; omega)))) ?_; clear hK K; (try simp only [Act.put, List.setIfInBounds_toArray, List.set_cons_zero, List.set_cons_succ]))
        (refine plan_late rfl rfl (by rfl) (fun K hK => ?_); go_simp)
        refine (rexpires_any b _ _ (HR.out.below' (by repeat' (first | with_reducible (first | refine bset ?_ ?_ | exact Below.refl _ _ | assumption | refine bdrewN ?_ _ | refine bdrew ?_ | refine balloc0 ?_ | refine balloc ?_ ?_ | (apply btrans0; rotate_left; assumption) | (apply btrans; rotate_left; assumption)) | exact Below.refl _ _ | assumption | (apply btrans0; rotate_left; assumption) | (apply btrans; rotate_left; assumption) | (simp; done) | omega | (simp; omega)))) HF.out).mono ?_
        rw [HX.out]
        rintro e wc91 ⟨rfl, hbc91⟩
        (refine hK _ _ ?_; clear hK K; (try simp only [Act.put, List.setIfInBounds_toArray, List.set_cons_zero, List.set_cons_succ]))
        (iterate 2 (first | (refine plan_held rfl (by decide) (by rfl) (fun w1 hS => by (try (obtain ⟨_, _⟩ := bcell (hS rfl))); go_simp; rfl) ?_; simp only [Act.put, List.setIfInBounds_toArray, List.set_cons_zero, List.set_cons_succ]) | (refine plan_skip rfl (by decide) (by rfl) ?_; simp only [Act.put, List.setIfInBounds_toArray, List.set_cons_zero, List.set_cons_succ])))
        refine plan_done ?_
        go_wp2
        go_ret2
        rw [HS4.out]
        exact ⟨_, rfl, rbuns_nil _ _, (by repeat' (first | with_reducible (first | refine bset ?_ ?_ | exact Below.refl _ _ | assumption | refine bdrewN ?_ _ | refine bdrew ?_ | refine balloc0 ?_ | refine balloc ?_ ?_ | (apply btrans0; rotate_left; assumption) | (apply btrans; rotate_left; assumption)) | exact Below.refl _ _ | assumption | (apply btrans0; rotate_left; assumption) | (apply btrans; rotate_left; assumption) | (simp; done) | omega | (simp; omega)))⟩

      | false =>
      go_upto_region 21 with fail
      refine wp_region_plan (fun V => Below (wr).heap.size (wr) V) [0, 0, 1, 0, 0, 0, 0, 2, 0, 0, 0, 0, 2, 0, 0, 1, 0, 0, 0, 0, 2, 1, 3, 0, 0] [0, 1, 2, 3, 4, 5, 6, 7, 8, 9, 10, 11, 13, 14, 15, 12, 16, 17, 18, 19, 21, 20, 22, 23, 24] (by kernel_rfl) (by kernel_rfl) ?_ ?_
      case refine_1 => exact (by repeat' (first | with_reducible (first | refine bset ?_ ?_ | exact Below.refl _ _ | assumption | refine bdrewN ?_ _ | refine bdrew ?_ | refine balloc0 ?_ | refine balloc ?_ ?_ | (apply btrans0; rotate_left; assumption) | (apply btrans; rotate_left; assumption)) | exact Below.refl _ _ | assumption | (apply btrans0; rotate_left; assumption) | (apply btrans; rotate_left; assumption) | (simp; done) | omega | (simp; omega)))
      (iterate 7 (first | (refine plan_held rfl (by decide) (by rfl) (fun w1 hS => by (try (obtain ⟨_, _⟩ := bcell (hS rfl))); go_simp; rfl) ?_; simp only [Act.put, List.setIfInBounds_toArray, List.set_cons_zero, List.set_cons_succ]) | (refine plan_skip rfl (by decide) (by rfl) ?_; simp only [Act.put, List.setIfInBounds_toArray, List.set_cons_zero, List.set_cons_succ])))
      (refine plan_keep rfl rfl (by rfl) (fun K hK => ?_); go_simp)
      refine (joinable_any ol _ 0 _ (HV.out.below'' (by repeat' (first | with_reducible (first | refine bset ?_ ?_ | exact Below.refl _ _ | assumption | refine bdrewN ?_ _ | refine bdrew ?_ | refine balloc0 ?_ | refine balloc ?_ ?_ | (apply btrans0; rotate_left; assumption) | (apply btrans; rotate_left; assumption)) | exact Below.refl _ _ | assumption | (apply btrans0; rotate_left; assumption) | (apply btrans; rotate_left; assumption) | (simp; done) | omega | (simp; omega)))) HL.out).mono ?_
      rw [HRJ.out]
      rintro e wc76 ⟨rfl, hbc76⟩
      (refine hK _ _ (by exact (by repeat' (first | with_reducible (first | refine bset ?_ ?_ | exact Below.refl _ _ | assumption | refine bdrewN ?_ _ | refine bdrew ?_ | refine balloc0 ?_ | refine balloc ?_ ?_ | (apply btrans0; rotate_left; assumption) | (apply btrans; rotate_left; assumption)) | exact Below.refl _ _ | assumption | (apply btrans0; rotate_left; assumption) | (apply btrans; rotate_left; assumption) | (simp; done) | omega | (simp; omega)))) ?_; clear hK K; (try simp only [Act.put, List.setIfInBounds_toArray, List.set_cons_zero, List.set_cons_succ]))
      (iterate 7 (first | (refine plan_held rfl (by decide) (by rfl) (fun w1 hS => by (try (obtain ⟨_, _⟩ := bcell (hS rfl))); go_simp; rfl) ?_; simp only [Act.put, List.setIfInBounds_toArray, List.set_cons_zero, List.set_cons_succ]) | (refine plan_skip rfl (by decide) (by rfl) ?_; simp only [Act.put, List.setIfInBounds_toArray, List.set_cons_zero, List.set_cons_succ])))
      (refine plan_keep rfl rfl (by rfl) (fun K hK => ?_); go_simp)
      refine (created_any ol _ _ (HV.out.below'' (by repeat' (first | with_reducible (first | refine bset ?_ ?_ | exact Below.refl _ _ | assumption | refine bdrewN ?_ _ | refine bdrew ?_ | refine balloc0 ?_ | refine balloc ?_ ?_ | (apply btrans0; rotate_left; assumption) | (apply btrans; rotate_left; assumption)) | exact Below.refl _ _ | assumption | (apply btrans0; rotate_left; assumption) | (apply btrans; rotate_left; assumption) | (simp; done) | omega | (simp; omega)))) HL.out).mono ?_
      rw [HTT.out]
      rintro e wc81 ⟨rfl, hbc81⟩
      (refine hK _ _ (by exact (by repeat' (first | with_reducible (first | refine bset ?_ ?_ | exact Below.refl _ _ | assumption | refine bdrewN ?_ _ | refine bdrew ?_ | refine balloc0 ?_ | refine balloc ?_ ?_ | (apply btrans0; rotate_left; assumption) | (apply btrans; rotate_left; assumption)) | exact Below.refl _ _ | assumption | (apply btrans0; rotate_left; assumption) | (apply btrans; rotate_left; assumption) | (simp; done) | omega | (simp; omega)))) ?_; clear hK K; (try simp only [Act.put, List.setIfInBounds_toArray, List.set_cons_zero, List.set_cons_succ]))
      (iterate 5 (first | (refine plan_held rfl (by decide) (by rfl) (fun w1 hS => by (try (obtain ⟨_, _⟩ := bcell (hS rfl))); go_simp; rfl) ?_; simp only [Act.put, List.setIfInBounds_toArray, List.set_cons_zero, List.set_cons_succ]) | (refine plan_skip rfl (by decide) (by rfl) ?_; simp only [Act.put, List.setIfInBounds_toArray, List.set_cons_zero, List.set_cons_succ])))
      (refine plan_keep rfl rfl (by rfl) (fun K hK => ?_); go_simp)
      refine (ends_any ol _ _ (HV.out.below'' (by repeat' (first | with_reducible (first | refine bset ?_ ?_ | exact Below.refl _ _ | assumption | refine bdrewN ?_ _ | refine bdrew ?_ | refine balloc0 ?_ | refine balloc ?_ ?_ | (apply btrans0; rotate_left; assumption) | (apply btrans; rotate_left; assumption)) | exact Below.refl _ _ | assumption | (apply btrans0; rotate_left; assumption) | (apply btrans; rotate_left; assumption) | (simp; done) | omega | (simp; omega)))) HL.out hop HALL.out).mono ?_
      rw [HDD.out]
      rintro e wc89 ⟨rfl, hbc89⟩
      (refine hK _ _ (by exact (by repeat' (first | with_reducible (first | refine bset ?_ ?_ | exact Below.refl _ _ | assumption | refine bdrewN ?_ _ | refine bdrew ?_ | refine balloc0 ?_ | refine balloc ?_ ?_ | (apply btrans0; rotate_left; assumption) | (apply btrans; rotate_left; assumption)) | exact Below.refl _ _ | assumption | (apply btrans0; rotate_left; assumption) | (apply btrans; rotate_left; assumption) | (simp; done) | omega | (simp; omega)))) ?_; clear hK K; (try simp only [Act.put, List.setIfInBounds_toArray, List.set_cons_zero, List.set_cons_succ]))
      (refine plan_late rfl rfl (by rfl) (fun K hK => ?_); go_simp)
      refine (rexpires_any b _ _ (HR.out.below' (by repeat' (first | with_reducible (first | refine bset ?_ ?_ | exact Below.refl _ _ | assumption | refine bdrewN ?_ _ | refine bdrew ?_ | refine balloc0 ?_ | refine balloc ?_ ?_ | (apply btrans0; rotate_left; assumption) | (apply btrans; rotate_left; assumption)) | exact Below.refl _ _ | assumption | (apply btrans0; rotate_left; assumption) | (apply btrans; rotate_left; assumption) | (simp; done) | omega | (simp; omega)))) HF.out).mono ?_
      rw [HX.out]
      rintro e wc91 ⟨rfl, hbc91⟩
      (refine hK _ _ ?_; clear hK K; (try simp only [Act.put, List.setIfInBounds_toArray, List.set_cons_zero, List.set_cons_succ]))
      (iterate 2 (first | (refine plan_held rfl (by decide) (by rfl) (fun w1 hS => by (try (obtain ⟨_, _⟩ := bcell (hS rfl))); go_simp; rfl) ?_; simp only [Act.put, List.setIfInBounds_toArray, List.set_cons_zero, List.set_cons_succ]) | (refine plan_skip rfl (by decide) (by rfl) ?_; simp only [Act.put, List.setIfInBounds_toArray, List.set_cons_zero, List.set_cons_succ])))
      refine plan_done ?_
      have hBW : Below wr.heap.size wr wc91 := (by repeat' (first | with_reducible (first | refine bset ?_ ?_ | exact Below.refl _ _ | assumption | refine bdrewN ?_ _ | refine bdrew ?_ | refine balloc0 ?_ | refine balloc ?_ ?_ | (apply btrans0; rotate_left; assumption) | (apply btrans; rotate_left; assumption)) | exact Below.refl _ _ | assumption | (apply btrans0; rotate_left; assumption) | (apply btrans; rotate_left; assumption) | (simp; done) | omega | (simp; omega)))
      have hzW := hBW.size
      have z5 : w.heap.size < wc91.heap.size := by omega
      have hv4 := HV.out.below'' hBW
      have HV4 := Lib.hid hv4
      obtain ⟨va', vc', hve, v1, v2, v3, v4⟩ := hv4
      simp only [Value.slice.injEq] at hve
      obtain ⟨rfl, hkk, rfl⟩ := hve
      clear hkk
      obtain ⟨bb, o, rfl, hbn, hcell⟩ := v4 HOP.out
      obtain ⟨uy, hc, huy⟩ := hcell 0 y (by rw [HYR.out]; rfl)
      have q0 := hc 0 _ rfl
      have q5 := hc 5 _ rfl
      have q6 := hc 6 _ rfl
      have q8 := hc 8 _ rfl
      simp only [Nat.zero_mul, Nat.add_zero] at q0 q5 q6 q8
      have G4 := (hBW.block _ z0).trans H0.out
      have HB4 := Lib.hid (btrans0 hB hBW)
      clear cb
      have cb := fun o => cellB G4 o
      simp only [bunC] at cb
      clear hcell hc huy v1 v2 v3 v4 G4
      cases m1 with
      | true =>
        go_upto_region 23 with fail
        refine wp_region_plan (fun V => Below (wc91).heap.size (wc91) V) [0, 0, 0, 0, 1, 0, 0, 1, 0, 0, 0, 0, 0, 1, 0, 1, 0, 0, 0, 0, 0, 0, 1, 0, 1, 0, 0] [0, 1, 2, 3, 4, 5, 6, 7, 8, 9, 10, 11, 12, 13, 14, 15, 16, 17, 18, 19, 20, 21, 22, 23, 24, 25, 26] (by kernel_rfl) (by kernel_rfl) ?_ ?_
        case refine_1 => exact (by repeat' (first | with_reducible (first | refine bset ?_ ?_ | exact Below.refl _ _ | assumption | refine bdrewN ?_ _ | refine bdrew ?_ | refine balloc0 ?_ | refine balloc ?_ ?_ | (apply btrans0; rotate_left; assumption) | (apply btrans; rotate_left; assumption)) | exact Below.refl _ _ | assumption | (apply btrans0; rotate_left; assumption) | (apply btrans; rotate_left; assumption) | (simp; done) | omega | (simp; omega)))
        (iterate 27 (first | (refine plan_held rfl (by decide) (by rfl) (fun w1 hS => by (try (obtain ⟨_, _⟩ := bcell (hS rfl))); go_simp; rfl) ?_; simp only [Act.put, List.setIfInBounds_toArray, List.set_cons_zero, List.set_cons_succ]) | (refine plan_skip rfl (by decide) (by rfl) ?_; simp only [Act.put, List.setIfInBounds_toArray, List.set_cons_zero, List.set_cons_succ])))
        refine plan_done ?_
        go_wp2
        go_ret2
        rw [HS4.out]
        exact ⟨_, rfl, rbuns_nil _ _, (by repeat' (first | with_reducible (first | refine bset ?_ ?_ | exact Below.refl _ _ | assumption | refine bdrewN ?_ _ | refine bdrew ?_ | refine balloc0 ?_ | refine balloc ?_ ?_ | (apply btrans0; rotate_left; assumption) | (apply btrans; rotate_left; assumption)) | exact Below.refl _ _ | assumption | (apply btrans0; rotate_left; assumption) | (apply btrans; rotate_left; assumption) | (simp; done) | omega | (simp; omega)))⟩

      | false =>
      cases m2 with
      | true =>
        go_upto_region 23 with fail
        refine wp_region_plan (fun V => Below (wc91).heap.size (wc91) V) [0, 0, 0, 0, 1, 0, 0, 1, 0, 0, 0, 0, 0, 1, 0, 1, 0, 0, 0, 0, 0, 0, 1, 0, 1, 0, 0] [0, 1, 2, 3, 4, 5, 6, 7, 8, 9, 10, 11, 12, 13, 14, 15, 16, 17, 18, 19, 20, 21, 22, 23, 24, 25, 26] (by kernel_rfl) (by kernel_rfl) ?_ ?_
        case refine_1 => exact (by repeat' (first | with_reducible (first | refine bset ?_ ?_ | exact Below.refl _ _ | assumption | refine bdrewN ?_ _ | refine bdrew ?_ | refine balloc0 ?_ | refine balloc ?_ ?_ | (apply btrans0; rotate_left; assumption) | (apply btrans; rotate_left; assumption)) | exact Below.refl _ _ | assumption | (apply btrans0; rotate_left; assumption) | (apply btrans; rotate_left; assumption) | (simp; done) | omega | (simp; omega)))
        (iterate 27 (first | (refine plan_held rfl (by decide) (by rfl) (fun w1 hS => by (try (obtain ⟨_, _⟩ := bcell (hS rfl))); go_simp; rfl) ?_; simp only [Act.put, List.setIfInBounds_toArray, List.set_cons_zero, List.set_cons_succ]) | (refine plan_skip rfl (by decide) (by rfl) ?_; simp only [Act.put, List.setIfInBounds_toArray, List.set_cons_zero, List.set_cons_succ])))
        refine plan_done ?_
        go_wp2
        go_ret2
        rw [HS4.out]
        exact ⟨_, rfl, rbuns_nil _ _, (by repeat' (first | with_reducible (first | refine bset ?_ ?_ | exact Below.refl _ _ | assumption | refine bdrewN ?_ _ | refine bdrew ?_ | refine balloc0 ?_ | refine balloc ?_ ?_ | (apply btrans0; rotate_left; assumption) | (apply btrans; rotate_left; assumption)) | exact Below.refl _ _ | assumption | (apply btrans0; rotate_left; assumption) | (apply btrans; rotate_left; assumption) | (simp; done) | omega | (simp; omega)))⟩

      | false =>
      cases m3 with
      | true =>
        go_upto_region 23 with fail
        refine wp_region_plan (fun V => Below (wc91).heap.size (wc91) V) [0, 0, 0, 0, 1, 0, 0, 1, 0, 0, 0, 0, 0, 1, 0, 1, 0, 0, 0, 0, 0, 0, 1, 0, 1, 0, 0] [0, 1, 2, 3, 4, 5, 6, 7, 8, 9, 10, 11, 12, 13, 14, 15, 16, 17, 18, 19, 20, 21, 22, 23, 24, 25, 26] (by kernel_rfl) (by kernel_rfl) ?_ ?_
        case refine_1 => exact (by repeat' (first | with_reducible (first | refine bset ?_ ?_ | exact Below.refl _ _ | assumption | refine bdrewN ?_ _ | refine bdrew ?_ | refine balloc0 ?_ | refine balloc ?_ ?_ | (apply btrans0; rotate_left; assumption) | (apply btrans; rotate_left; assumption)) | exact Below.refl _ _ | assumption | (apply btrans0; rotate_left; assumption) | (apply btrans; rotate_left; assumption) | (simp; done) | omega | (simp; omega)))
        (iterate 27 (first | (refine plan_held rfl (by decide) (by rfl) (fun w1 hS => by (try (obtain ⟨_, _⟩ := bcell (hS rfl))); go_simp; rfl) ?_; simp only [Act.put, List.setIfInBounds_toArray, List.set_cons_zero, List.set_cons_succ]) | (refine plan_skip rfl (by decide) (by rfl) ?_; simp only [Act.put, List.setIfInBounds_toArray, List.set_cons_zero, List.set_cons_succ])))
        refine plan_done ?_
        go_wp2
        go_ret2
        rw [HS4.out]
        exact ⟨_, rfl, rbuns_nil _ _, (by repeat' (first | with_reducible (first | refine bset ?_ ?_ | exact Below.refl _ _ | assumption | refine bdrewN ?_ _ | refine bdrew ?_ | refine balloc0 ?_ | refine balloc ?_ ?_ | (apply btrans0; rotate_left; assumption) | (apply btrans; rotate_left; assumption)) | exact Below.refl _ _ | assumption | (apply btrans0; rotate_left; assumption) | (apply btrans; rotate_left; assumption) | (simp; done) | omega | (simp; omega)))⟩

      | false =>
        go_upto_region 23 with fail
        refine wp_region_plan (fun V => Below (wc91).heap.size (wc91) V) [0, 0, 0, 0, 1, 0, 0, 1, 0, 0, 0, 0, 0, 1, 0, 1, 0, 0, 0, 0, 0, 0, 1, 0, 1, 0, 0] [0, 1, 2, 3, 4, 5, 6, 7, 8, 9, 10, 11, 12, 13, 14, 15, 16, 17, 18, 19, 20, 21, 22, 23, 24, 25, 26] (by kernel_rfl) (by kernel_rfl) ?_ ?_
        case refine_1 => exact (by repeat' (first | with_reducible (first | refine bset ?_ ?_ | exact Below.refl _ _ | assumption | refine bdrewN ?_ _ | refine bdrew ?_ | refine balloc0 ?_ | refine balloc ?_ ?_ | (apply btrans0; rotate_left; assumption) | (apply btrans; rotate_left; assumption)) | exact Below.refl _ _ | assumption | (apply btrans0; rotate_left; assumption) | (apply btrans; rotate_left; assumption) | (simp; done) | omega | (simp; omega)))
        (iterate 27 (first | (refine plan_held rfl (by decide) (by rfl) (fun w1 hS => by (try (obtain ⟨_, _⟩ := bcell (hS rfl))); go_simp; rfl) ?_; simp only [Act.put, List.setIfInBounds_toArray, List.set_cons_zero, List.set_cons_succ]) | (refine plan_skip rfl (by decide) (by rfl) ?_; simp only [Act.put, List.setIfInBounds_toArray, List.set_cons_zero, List.set_cons_succ])))
        refine plan_done ?_
        go_wp2
        go_ret2
        rw [HS4.out]
        have hB4 := HB4.out
        exact ⟨_, rfl, HV4.out, (by repeat' (first | with_reducible (first | refine bset ?_ ?_ | exact Below.refl _ _ | assumption | refine bdrewN ?_ _ | refine bdrew ?_ | refine balloc0 ?_ | refine balloc ?_ ?_ | (apply btrans0; rotate_left; assumption) | (apply btrans; rotate_left; assumption)) | exact Below.refl _ _ | assumption | (apply btrans0; rotate_left; assumption) | (apply btrans; rotate_left; assumption) | (simp; done) | omega | (simp; omega)))⟩

set_option maxHeartbeats 1000000 in
theorem ris_any (b : Bun) (u : Value) (w : World) (h : RBlks w w.heap.size u b.blocks) (hf : Fits b) :
    Calls Try.prog 15 #[.agg (bunC b u).toArray] w fun e w' => e = .returned (.bool (decide ((rsepS b).2 = 0))) ∧ Below w.heap.size w w' := by
  obtain ⟨ua, uc, rfl, _⟩ := id h
  have HR := Lib.hid h
  have HF := Lib.hid hf
  obtain ⟨⟨l, e⟩, hs⟩ : ∃ q, rsepS b = q := ⟨_, rfl⟩
  have HS := Lib.hid hs
  rw [hs]
  clear h hf hs
  simp only
  rw [show decide (e = 0) = (e == 0) from by rw [Bool.eq_iff_iff]; simp]
  go_enter Try.func15, Try.ntmps15
  simp only [bunC]
  go_wp2_with fail
  refine (rsep_any b _ _ (HR.out.below (C := w.heap.size) (by repeat' (first | with_reducible (first | refine bset ?_ ?_ | exact Below.refl _ _ | assumption | refine bdrewN ?_ _ | refine bdrew ?_ | refine balloc0 ?_ | refine balloc ?_ ?_ | (apply btrans0; rotate_left; assumption) | (apply btrans; rotate_left; assumption)) | exact Below.refl _ _ | assumption | (apply btrans0; rotate_left; assumption) | (apply btrans; rotate_left; assumption) | (simp; done) | omega | (simp; omega))) (Nat.le_refl _) (by simp)) HF.out).mono ?_
  rw [HS.out]
  unfold SepPost
  rintro e' w1 ⟨v, rfl, hv, hb1⟩
  obtain ⟨va, vc, rfl, _⟩ := id hv
  clear hv
  go_wp2
  go_ret
  exact ⟨rfl, (by repeat' (first | with_reducible (first | refine bset ?_ ?_ | exact Below.refl _ _ | assumption | refine bdrewN ?_ _ | refine bdrew ?_ | refine balloc0 ?_ | refine balloc ?_ ?_ | (apply btrans0; rotate_left; assumption) | (apply btrans; rotate_left; assumption)) | exact Below.refl _ _ | assumption | (apply btrans0; rotate_left; assumption) | (apply btrans; rotate_left; assumption) | (simp; done) | omega | (simp; omega)))⟩
end Go.Proofs.Ytpkklmkeflddkaa
