/-
  Proved: mailboatlaw13.BundleRoundTrip returns true for every input, and leaves its arguments as they were. No condition.
-/
import Derived.Test.YthedoidpapodgaaRows
import Derived.Test.YthedoidpapodgaaJa
import Derived.Test.YthedoidpapodgaaJn
import Derived.Test.YthedoidpapodgaaTk
import Derived.Test.YthedoidpapodgaaTi
import Derived.Test.YthedoidpapodgaaTg
import Derived.Test.YthedoidpapodgaaTd
import Derived.Test.YthedoidpapodgaaTl
set_option linter.unusedVariables false
set_option linter.unusedSimpArgs false
namespace Go.Proofs.Ythedoidpapodgaa.bundleRoundTrip
open Go Go.ChangeShapes Go.WideShapes Go.ChangeAt Go.RowKit Go.Joins Go.Proofs.Ythedoidpapodgaa
attribute [local go_sem] B_getElem B_size B_app B_extract B_get B_toList

theorem own : ownKnob Try.prog.godebug = none := by kernel_rfl

attribute [local go_sem] bunC idV
attribute [local go_sem ↓] eqId eqEnd
set_option maxRecDepth 100000 in
set_option maxHeartbeats 4000000 in
theorem walk (b : Bun) (u : Value) (s : List UInt8) (w : World) (hr : RBlks w w.heap.size u b.blocks) (hf : Fits b) (hs : s.length ≤ maxLen) :
    Calls Try.prog 6 #[.agg (bunC b u).toArray, .string (B s)] w (Says w) := by
  obtain ⟨ua, uc, rfl, _⟩ := id hr
  have HR := Lib.hid hr
  have HF := Lib.hid hf
  clear hr hf
  unfold maxLen at hs
  have hs2 : s.length ≤ 9223372036854775807 := by omega
  by_cases h3 : 3000 < s.length
  · have h3' : (3000 : Int) < (s.length : Int) := by omega
    go_enter Try.func6, Try.ntmps6
    simp only [bunC]
    go_wp2_with fail
    refine (bgreat_any b _ _ (HR.out.below' (by repeat' (first | (with_reducible refine bset ?_ ?_) | (with_reducible exact Below.refl _ _) | (with_reducible assumption) | (with_reducible refine bdrewN ?_ _) | (with_reducible refine bdrew ?_) | (with_reducible refine balloc0 ?_) | (with_reducible refine balloc ?_ ?_) | (with_reducible apply btrans0; rotate_left; with_reducible assumption) | (with_reducible apply btrans; rotate_left; with_reducible assumption) | exact Below.refl _ _ | assumption | (apply btrans0; rotate_left; assumption) | (apply btrans; rotate_left; assumption) | (simp; done) | omega | (simp; omega)))) HF.out).mono ?_
    rintro e w1 ⟨g, rfl, hb1⟩
    obtain ⟨k1, f1⟩ := bcell hb1
    have z1_0 : w.heap.size < w1.heap.size := by have := hb1.size; (try simp at this); omega
    cases g
    case true =>
      go_wp2_with fail
      refine (awake_any _).mono ?_
      rintro e w99 ⟨rfl, hb99⟩
      go_wp2
      go_ret
      exact ⟨rfl, (by repeat' (first | (with_reducible refine bset ?_ ?_) | (with_reducible exact Below.refl _ _) | (with_reducible assumption) | (with_reducible refine bdrewN ?_ _) | (with_reducible refine bdrew ?_) | (with_reducible refine balloc0 ?_) | (with_reducible refine balloc ?_ ?_) | (with_reducible apply btrans0; rotate_left; with_reducible assumption) | (with_reducible apply btrans; rotate_left; with_reducible assumption) | exact Below.refl _ _ | assumption | (apply btrans0; rotate_left; assumption) | (apply btrans; rotate_left; assumption) | (simp; done) | omega | (simp; omega)))⟩
    go_wp2_with fail
    refine (awake_any _).mono ?_
    rintro e w99 ⟨rfl, hb99⟩
    go_wp2
    go_ret
    exact ⟨rfl, (by repeat' (first | (with_reducible refine bset ?_ ?_) | (with_reducible exact Below.refl _ _) | (with_reducible assumption) | (with_reducible refine bdrewN ?_ _) | (with_reducible refine bdrew ?_) | (with_reducible refine balloc0 ?_) | (with_reducible refine balloc ?_ ?_) | (with_reducible apply btrans0; rotate_left; with_reducible assumption) | (with_reducible apply btrans; rotate_left; with_reducible assumption) | exact Below.refl _ _ | assumption | (apply btrans0; rotate_left; assumption) | (apply btrans; rotate_left; assumption) | (simp; done) | omega | (simp; omega)))⟩
  have h3' : ¬ (3000 : Int) < (s.length : Int) := by omega
  have h3a : ¬ 3000 < s.length := h3
  clear h3
  by_cases hz : chkE b = 0
  case neg =>
    have hR : bunR b = [] := bunR_bad hz
    have HRR := Lib.hid hR
    obtain ⟨C, hC⟩ : ∃ q, chkE b = q := ⟨_, rfl⟩
    rw [hC] at hz
    have HC := Lib.hid hC
    have hz' : (C != 0) = true := by rw [bne_iff_ne]; exact hz
    have hz2 : (C == 0) = false := beq_eq_false_iff_ne.2 hz
    clear hR hC hz
    go_enter Try.func6, Try.ntmps6
    simp only [bunC]
    go_wp2_with fail
    refine (bgreat_any b _ _ (HR.out.below' (by repeat' (first | (with_reducible refine bset ?_ ?_) | (with_reducible exact Below.refl _ _) | (with_reducible assumption) | (with_reducible refine bdrewN ?_ _) | (with_reducible refine bdrew ?_) | (with_reducible refine balloc0 ?_) | (with_reducible refine balloc ?_ ?_) | (with_reducible apply btrans0; rotate_left; with_reducible assumption) | (with_reducible apply btrans; rotate_left; with_reducible assumption) | exact Below.refl _ _ | assumption | (apply btrans0; rotate_left; assumption) | (apply btrans; rotate_left; assumption) | (simp; done) | omega | (simp; omega)))) HF.out).mono ?_
    rintro e w1 ⟨g, rfl, hb1⟩
    obtain ⟨k1, f1⟩ := bcell hb1
    have z1_0 : w.heap.size < w1.heap.size := by have := hb1.size; (try simp at this); omega
    cases g
    case true =>
      go_wp2_with fail
      refine (awake_any _).mono ?_
      rintro e w99 ⟨rfl, hb99⟩
      go_wp2
      go_ret
      exact ⟨rfl, (by repeat' (first | (with_reducible refine bset ?_ ?_) | (with_reducible exact Below.refl _ _) | (with_reducible assumption) | (with_reducible refine bdrewN ?_ _) | (with_reducible refine bdrew ?_) | (with_reducible refine balloc0 ?_) | (with_reducible refine balloc ?_ ?_) | (with_reducible apply btrans0; rotate_left; with_reducible assumption) | (with_reducible apply btrans; rotate_left; with_reducible assumption) | exact Below.refl _ _ | assumption | (apply btrans0; rotate_left; assumption) | (apply btrans; rotate_left; assumption) | (simp; done) | omega | (simp; omega)))⟩
    go_wp2_with fail
    refine (bunEncode_any b _ _ (HR.out.below' (by repeat' (first | (with_reducible refine bset ?_ ?_) | (with_reducible exact Below.refl _ _) | (with_reducible assumption) | (with_reducible refine bdrewN ?_ _) | (with_reducible refine bdrew ?_) | (with_reducible refine balloc0 ?_) | (with_reducible refine balloc ?_ ?_) | (with_reducible apply btrans0; rotate_left; with_reducible assumption) | (with_reducible apply btrans; rotate_left; with_reducible assumption) | exact Below.refl _ _ | assumption | (apply btrans0; rotate_left; assumption) | (apply btrans; rotate_left; assumption) | (simp; done) | omega | (simp; omega)))) HF.out).mono ?_
    rw [HRR.out, HC.out]
    rintro e w2 ⟨rfl, hb2⟩
    obtain ⟨k2, f2⟩ := bcell hb2
    have z2_0 : w.heap.size < w2.heap.size := by have := hb2.size; (try simp at this); omega
    go_wp2_with fail
    refine (check_any b _ _ (HR.out.below' (by repeat' (first | (with_reducible refine bset ?_ ?_) | (with_reducible exact Below.refl _ _) | (with_reducible assumption) | (with_reducible refine bdrewN ?_ _) | (with_reducible refine bdrew ?_) | (with_reducible refine balloc0 ?_) | (with_reducible refine balloc ?_ ?_) | (with_reducible apply btrans0; rotate_left; with_reducible assumption) | (with_reducible apply btrans; rotate_left; with_reducible assumption) | exact Below.refl _ _ | assumption | (apply btrans0; rotate_left; assumption) | (apply btrans; rotate_left; assumption) | (simp; done) | omega | (simp; omega)))) HF.out).mono ?_
    rw [HC.out]
    rintro e w3 ⟨rfl, hb3⟩
    obtain ⟨k3, f3⟩ := bcell hb3
    have z3_0 : w.heap.size < w3.heap.size := by have := hb3.size; (try simp at this); omega
    obtain ⟨⟨D, E⟩, hD⟩ : ∃ q, decBS s = q := ⟨_, rfl⟩
    have HD := Lib.hid hD
    by_cases hE : E = 0
    case neg =>
      obtain rfl := decB_err hD hE
      have hE' : (E != 0) = true := by rw [bne_iff_ne]; exact hE
      clear hD hE
      go_wp2_with fail
      refine (bunDecode_any s _ (by omega)).mono ?_
      rw [HD.out]
      rintro e w4 ⟨u5, rfl, hu5, fu5, hb4⟩
      obtain ⟨k4, f4⟩ := bcell hb4
      have z4_0 : w.heap.size < w4.heap.size := by have := hb4.size; (try simp at this); omega
      obtain ⟨va, vc, rfl, _⟩ := id hu5
      have HU5 := Lib.hid hu5
      clear hu5 fu5
      go_wp2_with fail
      refine (bsame_any zBun _ (.slice none 0 0) _ (HU5.out.below' (by repeat' (first | (with_reducible refine bset ?_ ?_) | (with_reducible exact Below.refl _ _) | (with_reducible assumption) | (with_reducible refine bdrewN ?_ _) | (with_reducible refine bdrew ?_) | (with_reducible refine balloc0 ?_) | (with_reducible refine balloc ?_ ?_) | (with_reducible apply btrans0; rotate_left; with_reducible assumption) | (with_reducible apply btrans; rotate_left; with_reducible assumption) | exact Below.refl _ _ | assumption | (apply btrans0; rotate_left; assumption) | (apply btrans; rotate_left; assumption) | (simp; done) | omega | (simp; omega)))) (RBlks.nil _ _)).mono ?_
      rintro e w5 ⟨rfl, hb5⟩
      obtain ⟨k5, f5⟩ := bcell hb5
      go_wp2_with fail
      refine (awake_any _).mono ?_
      rintro e w99 ⟨rfl, hb99⟩
      go_wp2
      go_ret
      exact ⟨rfl, (by repeat' (first | (with_reducible refine bset ?_ ?_) | (with_reducible exact Below.refl _ _) | (with_reducible assumption) | (with_reducible refine bdrewN ?_ _) | (with_reducible refine bdrew ?_) | (with_reducible refine balloc0 ?_) | (with_reducible refine balloc ?_ ?_) | (with_reducible apply btrans0; rotate_left; with_reducible assumption) | (with_reducible apply btrans; rotate_left; with_reducible assumption) | exact Below.refl _ _ | assumption | (apply btrans0; rotate_left; assumption) | (apply btrans; rotate_left; assumption) | (simp; done) | omega | (simp; omega)))⟩
    subst hE
    obtain ⟨hsD, hcD⟩ := enc_decB hD
    have hbr : bunR D = s := by rw [bunR_ok hcD]; exact hsD.symm
    have HBR := Lib.hid hbr
    have HCD := Lib.hid hcD
    have hfd := fits_valid hcD
    clear hD hsD hcD hbr
    go_wp2_with fail
    refine (bunDecode_any s _ (by omega)).mono ?_
    rw [HD.out]
    rintro e w4 ⟨u5, rfl, hu5, fu5, hb4⟩
    obtain ⟨k4, f4⟩ := bcell hb4
    have z4_0 : w.heap.size < w4.heap.size := by have := hb4.size; (try simp at this); omega
    obtain ⟨va, vc, rfl, _⟩ := id hu5
    have HU5 := Lib.hid hu5
    clear hu5 fu5
    go_wp2_with fail
    refine (bunEncode_any D _ _ (HU5.out.below' (by repeat' (first | (with_reducible refine bset ?_ ?_) | (with_reducible exact Below.refl _ _) | (with_reducible assumption) | (with_reducible refine bdrewN ?_ _) | (with_reducible refine bdrew ?_) | (with_reducible refine balloc0 ?_) | (with_reducible refine balloc ?_ ?_) | (with_reducible apply btrans0; rotate_left; with_reducible assumption) | (with_reducible apply btrans; rotate_left; with_reducible assumption) | exact Below.refl _ _ | assumption | (apply btrans0; rotate_left; assumption) | (apply btrans; rotate_left; assumption) | (simp; done) | omega | (simp; omega)))) hfd).mono ?_
    rw [HBR.out, HCD.out]
    rintro e w5 ⟨rfl, hb5⟩
    obtain ⟨k5, f5⟩ := bcell hb5
    go_wp2_with fail
    refine (awake_any _).mono ?_
    rintro e w99 ⟨rfl, hb99⟩
    go_wp2
    go_ret
    exact ⟨rfl, (by repeat' (first | (with_reducible refine bset ?_ ?_) | (with_reducible exact Below.refl _ _) | (with_reducible assumption) | (with_reducible refine bdrewN ?_ _) | (with_reducible refine bdrew ?_) | (with_reducible refine balloc0 ?_) | (with_reducible refine balloc ?_ ?_) | (with_reducible apply btrans0; rotate_left; with_reducible assumption) | (with_reducible apply btrans; rotate_left; with_reducible assumption) | exact Below.refl _ _ | assumption | (apply btrans0; rotate_left; assumption) | (apply btrans; rotate_left; assumption) | (simp; done) | omega | (simp; omega)))⟩
  obtain ⟨R, hR⟩ : ∃ q, bunR b = q := ⟨_, rfl⟩
  have hd : decBS R = (b, 0) := by rw [← hR, bunR_ok hz]; exact decB_enc hz
  have hl := bunR_len b
  rw [hR] at hl
  have hne : ¬ R = [] := fun h => by
    have := bunE_pos b
    rw [← bunR_ok hz, hR, h] at this
    simp at this
  have hne2 : R.isEmpty = false := by simpa using hne
  have HRR := Lib.hid hR
  have HC := Lib.hid hz
  have HDD := Lib.hid hd
  clear hR hz hd
  go_enter Try.func6, Try.ntmps6
  simp only [bunC]
  go_wp2_with fail
  refine (bgreat_any b _ _ (HR.out.below' (by repeat' (first | (with_reducible refine bset ?_ ?_) | (with_reducible exact Below.refl _ _) | (with_reducible assumption) | (with_reducible refine bdrewN ?_ _) | (with_reducible refine bdrew ?_) | (with_reducible refine balloc0 ?_) | (with_reducible refine balloc ?_ ?_) | (with_reducible apply btrans0; rotate_left; with_reducible assumption) | (with_reducible apply btrans; rotate_left; with_reducible assumption) | exact Below.refl _ _ | assumption | (apply btrans0; rotate_left; assumption) | (apply btrans; rotate_left; assumption) | (simp; done) | omega | (simp; omega)))) HF.out).mono ?_
  rintro e w1 ⟨g, rfl, hb1⟩
  obtain ⟨k1, f1⟩ := bcell hb1
  have z1_0 : w.heap.size < w1.heap.size := by have := hb1.size; (try simp at this); omega
  cases g
  case true =>
    go_wp2_with fail
    refine (awake_any _).mono ?_
    rintro e w99 ⟨rfl, hb99⟩
    go_wp2
    go_ret
    exact ⟨rfl, (by repeat' (first | (with_reducible refine bset ?_ ?_) | (with_reducible exact Below.refl _ _) | (with_reducible assumption) | (with_reducible refine bdrewN ?_ _) | (with_reducible refine bdrew ?_) | (with_reducible refine balloc0 ?_) | (with_reducible refine balloc ?_ ?_) | (with_reducible apply btrans0; rotate_left; with_reducible assumption) | (with_reducible apply btrans; rotate_left; with_reducible assumption) | exact Below.refl _ _ | assumption | (apply btrans0; rotate_left; assumption) | (apply btrans; rotate_left; assumption) | (simp; done) | omega | (simp; omega)))⟩
  go_wp2_with fail
  refine (bunEncode_any b _ _ (HR.out.below' (by repeat' (first | (with_reducible refine bset ?_ ?_) | (with_reducible exact Below.refl _ _) | (with_reducible assumption) | (with_reducible refine bdrewN ?_ _) | (with_reducible refine bdrew ?_) | (with_reducible refine balloc0 ?_) | (with_reducible refine balloc ?_ ?_) | (with_reducible apply btrans0; rotate_left; with_reducible assumption) | (with_reducible apply btrans; rotate_left; with_reducible assumption) | exact Below.refl _ _ | assumption | (apply btrans0; rotate_left; assumption) | (apply btrans; rotate_left; assumption) | (simp; done) | omega | (simp; omega)))) HF.out).mono ?_
  rw [HRR.out, HC.out]
  rintro e w2 ⟨rfl, hb2⟩
  obtain ⟨k2, f2⟩ := bcell hb2
  have z2_0 : w.heap.size < w2.heap.size := by have := hb2.size; (try simp at this); omega
  go_wp2_with fail
  refine (check_any b _ _ (HR.out.below' (by repeat' (first | (with_reducible refine bset ?_ ?_) | (with_reducible exact Below.refl _ _) | (with_reducible assumption) | (with_reducible refine bdrewN ?_ _) | (with_reducible refine bdrew ?_) | (with_reducible refine balloc0 ?_) | (with_reducible refine balloc ?_ ?_) | (with_reducible apply btrans0; rotate_left; with_reducible assumption) | (with_reducible apply btrans; rotate_left; with_reducible assumption) | exact Below.refl _ _ | assumption | (apply btrans0; rotate_left; assumption) | (apply btrans; rotate_left; assumption) | (simp; done) | omega | (simp; omega)))) HF.out).mono ?_
  rw [HC.out]
  rintro e w3 ⟨rfl, hb3⟩
  obtain ⟨k3, f3⟩ := bcell hb3
  have z3_0 : w.heap.size < w3.heap.size := by have := hb3.size; (try simp at this); omega
  go_wp2_with fail
  refine (bunDecode_any R _ (by omega)).mono ?_
  rw [HDD.out]
  rintro e w4 ⟨u4, rfl, hu4, fu4, hb4⟩
  obtain ⟨k4, f4⟩ := bcell hb4
  have z4_0 : w.heap.size < w4.heap.size := by have := hb4.size; (try simp at this); omega
  obtain ⟨xa, xc, rfl, _⟩ := id hu4
  have HU4 := Lib.hid hu4
  clear hu4 fu4
  go_wp2_with fail
  refine (bsame_any b _ _ _ (HR.out.below' (by repeat' (first | (with_reducible refine bset ?_ ?_) | (with_reducible exact Below.refl _ _) | (with_reducible assumption) | (with_reducible refine bdrewN ?_ _) | (with_reducible refine bdrew ?_) | (with_reducible refine balloc0 ?_) | (with_reducible refine balloc ?_ ?_) | (with_reducible apply btrans0; rotate_left; with_reducible assumption) | (with_reducible apply btrans; rotate_left; with_reducible assumption) | exact Below.refl _ _ | assumption | (apply btrans0; rotate_left; assumption) | (apply btrans; rotate_left; assumption) | (simp; done) | omega | (simp; omega)))) (HU4.out.below' (by repeat' (first | (with_reducible refine bset ?_ ?_) | (with_reducible exact Below.refl _ _) | (with_reducible assumption) | (with_reducible refine bdrewN ?_ _) | (with_reducible refine bdrew ?_) | (with_reducible refine balloc0 ?_) | (with_reducible refine balloc ?_ ?_) | (with_reducible apply btrans0; rotate_left; with_reducible assumption) | (with_reducible apply btrans; rotate_left; with_reducible assumption) | exact Below.refl _ _ | assumption | (apply btrans0; rotate_left; assumption) | (apply btrans; rotate_left; assumption) | (simp; done) | omega | (simp; omega))))).mono ?_
  rintro e w5 ⟨rfl, hb5⟩
  obtain ⟨k5, f5⟩ := bcell hb5
  have z5_0 : w.heap.size < w5.heap.size := by have := hb5.size; (try simp at this); omega
  obtain ⟨⟨D, E⟩, hD⟩ : ∃ q, decBS s = q := ⟨_, rfl⟩
  have HD := Lib.hid hD
  by_cases hE : E = 0
  case neg =>
    obtain rfl := decB_err hD hE
    have hE' : (E != 0) = true := by rw [bne_iff_ne]; exact hE
    clear hD hE
    go_wp2_with fail
    refine (bunDecode_any s _ (by omega)).mono ?_
    rw [HD.out]
    rintro e w6 ⟨u5, rfl, hu5, fu5, hb6⟩
    obtain ⟨k6, f6⟩ := bcell hb6
    have z6_0 : w.heap.size < w6.heap.size := by have := hb6.size; (try simp at this); omega
    obtain ⟨va, vc, rfl, _⟩ := id hu5
    have HU5 := Lib.hid hu5
    clear hu5 fu5
    go_wp2_with fail
    refine (bsame_any zBun _ (.slice none 0 0) _ (HU5.out.below' (by repeat' (first | (with_reducible refine bset ?_ ?_) | (with_reducible exact Below.refl _ _) | (with_reducible assumption) | (with_reducible refine bdrewN ?_ _) | (with_reducible refine bdrew ?_) | (with_reducible refine balloc0 ?_) | (with_reducible refine balloc ?_ ?_) | (with_reducible apply btrans0; rotate_left; with_reducible assumption) | (with_reducible apply btrans; rotate_left; with_reducible assumption) | exact Below.refl _ _ | assumption | (apply btrans0; rotate_left; assumption) | (apply btrans; rotate_left; assumption) | (simp; done) | omega | (simp; omega)))) (RBlks.nil _ _)).mono ?_
    rintro e w7 ⟨rfl, hb7⟩
    obtain ⟨k7, f7⟩ := bcell hb7
    go_wp2_with fail
    refine (awake_any _).mono ?_
    rintro e w99 ⟨rfl, hb99⟩
    go_wp2
    go_ret
    exact ⟨rfl, (by repeat' (first | (with_reducible refine bset ?_ ?_) | (with_reducible exact Below.refl _ _) | (with_reducible assumption) | (with_reducible refine bdrewN ?_ _) | (with_reducible refine bdrew ?_) | (with_reducible refine balloc0 ?_) | (with_reducible refine balloc ?_ ?_) | (with_reducible apply btrans0; rotate_left; with_reducible assumption) | (with_reducible apply btrans; rotate_left; with_reducible assumption) | exact Below.refl _ _ | assumption | (apply btrans0; rotate_left; assumption) | (apply btrans; rotate_left; assumption) | (simp; done) | omega | (simp; omega)))⟩
  subst hE
  obtain ⟨hsD, hcD⟩ := enc_decB hD
  have hbr : bunR D = s := by rw [bunR_ok hcD]; exact hsD.symm
  have HBR := Lib.hid hbr
  have HCD := Lib.hid hcD
  have hfd := fits_valid hcD
  clear hD hsD hcD hbr
  go_wp2_with fail
  refine (bunDecode_any s _ (by omega)).mono ?_
  rw [HD.out]
  rintro e w6 ⟨u5, rfl, hu5, fu5, hb6⟩
  obtain ⟨k6, f6⟩ := bcell hb6
  have z6_0 : w.heap.size < w6.heap.size := by have := hb6.size; (try simp at this); omega
  obtain ⟨va, vc, rfl, _⟩ := id hu5
  have HU5 := Lib.hid hu5
  clear hu5 fu5
  go_wp2_with fail
  refine (bunEncode_any D _ _ (HU5.out.below' (by repeat' (first | (with_reducible refine bset ?_ ?_) | (with_reducible exact Below.refl _ _) | (with_reducible assumption) | (with_reducible refine bdrewN ?_ _) | (with_reducible refine bdrew ?_) | (with_reducible refine balloc0 ?_) | (with_reducible refine balloc ?_ ?_) | (with_reducible apply btrans0; rotate_left; with_reducible assumption) | (with_reducible apply btrans; rotate_left; with_reducible assumption) | exact Below.refl _ _ | assumption | (apply btrans0; rotate_left; assumption) | (apply btrans; rotate_left; assumption) | (simp; done) | omega | (simp; omega)))) hfd).mono ?_
  rw [HBR.out, HCD.out]
  rintro e w7 ⟨rfl, hb7⟩
  obtain ⟨k7, f7⟩ := bcell hb7
  go_wp2_with fail
  refine (awake_any _).mono ?_
  rintro e w99 ⟨rfl, hb99⟩
  go_wp2
  go_ret
  exact ⟨rfl, (by repeat' (first | (with_reducible refine bset ?_ ?_) | (with_reducible exact Below.refl _ _) | (with_reducible assumption) | (with_reducible refine bdrewN ?_ _) | (with_reducible refine bdrew ?_) | (with_reducible refine balloc0 ?_) | (with_reducible refine balloc ?_ ?_) | (with_reducible apply btrans0; rotate_left; with_reducible assumption) | (with_reducible apply btrans; rotate_left; with_reducible assumption) | exact Below.refl _ _ | assumption | (apply btrans0; rotate_left; assumption) | (apply btrans; rotate_left; assumption) | (simp; done) | omega | (simp; omega)))⟩

set_option maxRecDepth 100000 in
theorem lifted (os : Os) (started : os.Started) (H : Type) (enc : TypeId × Value → H) :
    ReturnsInHanded {} Try.checked os 6 .any (Rows.bundleRoundTripSpec.pre6 enc Try.prog Try.f6 Rows.bundleRoundTripRow.domain false) (Rows.bundleRoundTripSpec.post enc Try.prog Try.f6 false true false false) := by
  refine returnsInHanded_of_change (C := Try.checked) own started (by kernel_rfl) Try.func6
    (ChangeSpec.witness6 (enc := enc) (C := Try.checked) false ⟨#[], #[.agg #[.int .i64 0, .int .i64 0, .int .i64 0, .int .i64 0, .int .i64 0, .int .i64 0, .int .i64 0, .int .i64 0, .int .i64 0, .int .i64 0, .slice none 0 0, .string (B [])], .string (B [])], []⟩ 8 (by kernel_rfl) (by kernel_rfl) (by kernel_rfl) (by kernel_rfl)) ?_
  intro W base args ds gs before hval0 hW hcnd _
  have hval : ∀ (j : Nat) t v, Try.f6.params[j]? = some t → args[j]? = some v → Value.okWide Try.prog W .any base t v := hval0
  have hW' := hW
  obtain ⟨p, q, hA0, hV, rfl, hfz, hnd⟩ := hW
  have hA : DataW.TrodAll enc Try.prog W 0 (fun _ => true) true Try.f6.params.toList args.toList ds p := hA0
  rw [Try.params6] at hA hval
  obtain ⟨v0, vs0, d0, ds0, p0, q0, hargs, rfl, rfl, h0, r0⟩ := trodAll_cons hA
  obtain ⟨v1, vs1, d1, ds1, p1, q1, rfl, rfl, rfl, h1, r1⟩ := trodAll_cons r0
  obtain ⟨rfl, rfl, rfl⟩ := trodAll_nil r1
  obtain rfl : args = #[v0, v1] := by cases args; simp_all
  obtain ⟨x0, u0, rfl, hr0, hf0⟩ := open_bun (hval 0 28 v0 rfl rfl) h0
  obtain ⟨x1, rfl, hs1⟩ := open_str_arg (hval 1 9 v1 rfl rfl) h1
  refine (walk x0 u0 x1 W hr0 hf0 hs1).mono fun e W' ⟨he, hB⟩ => ?_
  subst he
  refine ⟨_, rfl, law_post (by kernel_rfl) (by kernel_rfl) rfl Try.underlying4 rfl ?_ hW' hB⟩
  intro es hes
  match es, hes with
  | [_, _], _ => rfl

theorem proved : Rows.BundleRoundTripSaid :=
  OpenClaim.holds_of_wide 6 Try.f6 rfl rfl rfl rfl rfl rfl rfl ⟨rfl, rfl, rfl, rfl, rfl⟩ rfl rfl rfl rfl rfl (by kernel_rfl) Try.func6 (by kernel_rfl)
    (of_decide_eq_true (by kernel_rfl)) (by unfold Func.isWrapper; first | (rw [if_pos (by decide +kernel)]; kernel_rfl) | (rw [if_neg (by decide +kernel)]; exact ⟨rfl, rfl⟩))
    (fun os started H enc _ => lifted os started H enc)
#print axioms proved
end Go.Proofs.Ythedoidpapodgaa.bundleRoundTrip
