/-
  Proved: mailboatlaw13.BundleDamage returns true for every input, and leaves its arguments as they were. No condition.
-/
import Derived.Test.YthedoidpapodgaaRows
import Derived.Test.YthedoidpapodgaaJa
import Derived.Test.YthedoidpapodgaaJn
import Derived.Test.YthedoidpapodgaaTk
import Derived.Test.YthedoidpapodgaaTi
import Derived.Test.YthedoidpapodgaaTg
import Derived.Test.YthedoidpapodgaaTd
import Derived.Test.YthedoidpapodgaaTl
import Derived.Test.YthedoidpapodgaaTm
import Derived.Test.YthedoidpapodgaaJm
set_option linter.unusedVariables false
set_option linter.unusedSimpArgs false
namespace Go.Proofs.Ythedoidpapodgaa.bundleDamage
open Go Go.ChangeShapes Go.WideShapes Go.ChangeAt Go.RowKit Go.Joins Go.Proofs.Ythedoidpapodgaa
attribute [local go_sem] B_getElem B_size B_app B_extract B_get B_toList

theorem own : ownKnob Try.prog.godebug = none := by kernel_rfl

attribute [local go_sem] bunC idV
attribute [local go_sem ↓] eqId eqEnd
attribute [local go_sem ↓] str_bytes
set_option maxRecDepth 100000 in
set_option maxHeartbeats 4000000 in
theorem walk (b : Bun) (u : Value) (at' by' : Int) (more : List UInt8) (w : World) (hr : RBlks w w.heap.size u b.blocks) (hf : Fits b) (hat : 0 ≤ at' ∧ at' < 65536) (hch : 0 ≤ by' ∧ by' < 256) (hs : more.length ≤ maxLen) :
    Calls Try.prog 7 #[.agg (bunC b u).toArray, .int .u16 at', .int .u8 by', .string (B more)] w (Says w) := by
  obtain ⟨ua, uc, rfl, _⟩ := id hr
  have HR := Lib.hid hr
  have HF := Lib.hid hf
  clear hr hf
  unfold maxLen at hs
  have hs2 : more.length ≤ 9223372036854775807 := by omega
  obtain ⟨ha0, ha1⟩ := hat
  obtain ⟨hc0, hc1⟩ := hch
  by_cases h3 : 50 < more.length
  · have h3' : (50 : Int) < (more.length : Int) := by omega
    go_enter Try.func7, Try.ntmps7
    simp only [bunC]
    go_wp2_with fail
    refine (bgreat_any b _ _ (HR.out.below' (by repeat' (first | (with_reducible refine bset ?_ ?_) | (with_reducible exact Below.refl _ _) | (with_reducible assumption) | (with_reducible refine bdrewN ?_ _) | (with_reducible refine bdrew ?_) | (with_reducible refine balloc0 ?_) | (with_reducible refine balloc ?_ ?_) | (with_reducible apply btrans0; rotate_left; with_reducible assumption) | (with_reducible apply btrans; rotate_left; with_reducible assumption) | exact Below.refl _ _ | assumption | (apply btrans0; rotate_left; assumption) | (apply btrans; rotate_left; assumption) | (simp; done) | omega | (simp; omega)))) HF.out).mono ?_
    rintro e w1 ⟨g, rfl, hb1⟩
    obtain ⟨k1, f1⟩ := bcell hb1
    have z1_0 : w.heap.size < w1.heap.size := by have := hb1.size; (try simp at this); omega
    cases g
    case true =>
      go_wp2_with fail
      refine (awake_any _).mono ?_
      rintro e w99 ⟨rfl, hb99⟩
      go_wp2
      go_ret
      exact ⟨rfl, (by repeat' (first | (with_reducible refine bset ?_ ?_) | (with_reducible exact Below.refl _ _) | (with_reducible assumption) | (with_reducible refine bdrewN ?_ _) | (with_reducible refine bdrew ?_) | (with_reducible refine balloc0 ?_) | (with_reducible refine balloc ?_ ?_) | (with_reducible apply btrans0; rotate_left; with_reducible assumption) | (with_reducible apply btrans; rotate_left; with_reducible assumption) | exact Below.refl _ _ | assumption | (apply btrans0; rotate_left; assumption) | (apply btrans; rotate_left; assumption) | (simp; done) | omega | (simp; omega)))⟩
    go_wp2_with fail
    refine (awake_any _).mono ?_
    rintro e w99 ⟨rfl, hb99⟩
    go_wp2
    go_ret
    exact ⟨rfl, (by repeat' (first | (with_reducible refine bset ?_ ?_) | (with_reducible exact Below.refl _ _) | (with_reducible assumption) | (with_reducible refine bdrewN ?_ _) | (with_reducible refine bdrew ?_) | (with_reducible refine balloc0 ?_) | (with_reducible refine balloc ?_ ?_) | (with_reducible apply btrans0; rotate_left; with_reducible assumption) | (with_reducible apply btrans; rotate_left; with_reducible assumption) | exact Below.refl _ _ | assumption | (apply btrans0; rotate_left; assumption) | (apply btrans; rotate_left; assumption) | (simp; done) | omega | (simp; omega)))⟩
  have h3' : ¬ (50 : Int) < (more.length : Int) := by omega
  have h3a : ¬ 50 < more.length := h3
  have h50 : more.length ≤ 50 := by omega
  clear h3
  by_cases hz : chkE b = 0
  case neg =>
    have hR : bunR b = [] := bunR_bad hz
    have HRR := Lib.hid hR
    obtain ⟨C, hC⟩ : ∃ q, chkE b = q := ⟨_, rfl⟩
    rw [hC] at hz
    have HC := Lib.hid hC
    have hz' : (C != 0) = true := by rw [bne_iff_ne]; exact hz
    have hz2 : (C == 0) = false := beq_eq_false_iff_ne.2 hz
    clear hR hC hz
    go_enter Try.func7, Try.ntmps7
    simp only [bunC]
    go_wp2_with fail
    refine (bgreat_any b _ _ (HR.out.below' (by repeat' (first | (with_reducible refine bset ?_ ?_) | (with_reducible exact Below.refl _ _) | (with_reducible assumption) | (with_reducible refine bdrewN ?_ _) | (with_reducible refine bdrew ?_) | (with_reducible refine balloc0 ?_) | (with_reducible refine balloc ?_ ?_) | (with_reducible apply btrans0; rotate_left; with_reducible assumption) | (with_reducible apply btrans; rotate_left; with_reducible assumption) | exact Below.refl _ _ | assumption | (apply btrans0; rotate_left; assumption) | (apply btrans; rotate_left; assumption) | (simp; done) | omega | (simp; omega)))) HF.out).mono ?_
    rintro e w1 ⟨g, rfl, hb1⟩
    obtain ⟨k1, f1⟩ := bcell hb1
    have z1_0 : w.heap.size < w1.heap.size := by have := hb1.size; (try simp at this); omega
    cases g
    case true =>
      go_wp2_with fail
      refine (awake_any _).mono ?_
      rintro e w99 ⟨rfl, hb99⟩
      go_wp2
      go_ret
      exact ⟨rfl, (by repeat' (first | (with_reducible refine bset ?_ ?_) | (with_reducible exact Below.refl _ _) | (with_reducible assumption) | (with_reducible refine bdrewN ?_ _) | (with_reducible refine bdrew ?_) | (with_reducible refine balloc0 ?_) | (with_reducible refine balloc ?_ ?_) | (with_reducible apply btrans0; rotate_left; with_reducible assumption) | (with_reducible apply btrans; rotate_left; with_reducible assumption) | exact Below.refl _ _ | assumption | (apply btrans0; rotate_left; assumption) | (apply btrans; rotate_left; assumption) | (simp; done) | omega | (simp; omega)))⟩
    go_wp2_with fail
    refine (bunEncode_any b _ _ (HR.out.below' (by repeat' (first | (with_reducible refine bset ?_ ?_) | (with_reducible exact Below.refl _ _) | (with_reducible assumption) | (with_reducible refine bdrewN ?_ _) | (with_reducible refine bdrew ?_) | (with_reducible refine balloc0 ?_) | (with_reducible refine balloc ?_ ?_) | (with_reducible apply btrans0; rotate_left; with_reducible assumption) | (with_reducible apply btrans; rotate_left; with_reducible assumption) | exact Below.refl _ _ | assumption | (apply btrans0; rotate_left; assumption) | (apply btrans; rotate_left; assumption) | (simp; done) | omega | (simp; omega)))) HF.out).mono ?_
    rw [HRR.out, HC.out]
    rintro e w2 ⟨rfl, hb2⟩
    obtain ⟨k2, f2⟩ := bcell hb2
    have z2_0 : w.heap.size < w2.heap.size := by have := hb2.size; (try simp at this); omega
    go_wp2_with fail
    refine (awake_any _).mono ?_
    rintro e w99 ⟨rfl, hb99⟩
    go_wp2
    go_ret
    exact ⟨rfl, (by repeat' (first | (with_reducible refine bset ?_ ?_) | (with_reducible exact Below.refl _ _) | (with_reducible assumption) | (with_reducible refine bdrewN ?_ _) | (with_reducible refine bdrew ?_) | (with_reducible refine balloc0 ?_) | (with_reducible refine balloc ?_ ?_) | (with_reducible apply btrans0; rotate_left; with_reducible assumption) | (with_reducible apply btrans; rotate_left; with_reducible assumption) | exact Below.refl _ _ | assumption | (apply btrans0; rotate_left; assumption) | (apply btrans; rotate_left; assumption) | (simp; done) | omega | (simp; omega)))⟩
  obtain ⟨R, hR⟩ : ∃ q, bunR b = q := ⟨_, rfl⟩
  have hRE : R = bunE b := by rw [← hR]; exact bunR_ok hz
  have hl := bunR_len b
  have hR0 : 0 < R.length := by have := bunE_pos b; rw [hRE]; omega
  rw [hR] at hl
  have HRR := Lib.hid hR
  have HC := Lib.hid hz
  obtain ⟨n, hn⟩ : ∃ n, R.length = n := ⟨_, rfl⟩
  have HN := Lib.hid hn
  obtain ⟨i, hi⟩ : ∃ i : Nat, at'.tmod (n : Int) = i := ⟨(at'.tmod n).toNat, by
    have := Int.tmod_nonneg (n : Int) ha0
    omega⟩
  have hin : i < n := by
    have h1 := Int.tmod_lt_of_pos at' (show (0 : Int) < (n : Int) by omega)
    rw [hi] at h1; omega
  have hmod : at' % (n : Int) = (i : Int) := by rw [← hi, Int.tmod_eq_emod_of_nonneg ha0]
  obtain ⟨x, hx⟩ : ∃ x, R[i]? = some x := ⟨_, List.getElem?_eq_getElem (by omega)⟩
  obtain ⟨m, hm1, hm2, hm3⟩ : ∃ m : Int, 1 ≤ m ∧ m ≤ 255 ∧ ((by' < 1 ∧ m = 1) ∨ (¬ by' < 1 ∧ m = by')) := by
    by_cases q : by' < 1
    · exact ⟨1, by omega, by omega, .inl ⟨q, rfl⟩⟩
    · exact ⟨by', by omega, by omega, .inr ⟨q, rfl⟩⟩
  obtain ⟨c, hcc, hc1'⟩ : ∃ c : UInt8, m = (c.toNat : Int) ∧ c ≠ 0 := by
    refine ⟨UInt8.ofNat m.toNat, by rw [ofNat_toNat' (by omega)]; omega, fun h => ?_⟩
    have := congrArg UInt8.toNat h
    rw [ofNat_toNat' (by omega)] at this
    simp at this
    omega
  have hxy : x ≠ x ^^^ c := by
    intro h
    have h2 : c = 0 := by
      have : x ^^^ x = x ^^^ (x ^^^ c) := by rw [← h]
      rw [← UInt8.xor_assoc, UInt8.xor_self, UInt8.zero_xor] at this
      exact this.symm
    exact hc1' h2
  obtain ⟨y, hy⟩ : ∃ y, x ^^^ c = y := ⟨_, rfl⟩
  have hxor : bits .xor .u8 (x.toNat : Int) m = (y.toNat : Int) := by rw [← hy, hcc]; exact u8_xor x c
  rw [hy] at hxy
  have q1 : (decBS (R.set i y)).2 ≠ 0 := by rw [hRE] at hx ⊢; exact damB_set hx hxy
  have q2 : (decBS (R.take i)).2 ≠ 0 := by rw [hRE]; exact damB_cut hz (by rw [← hRE]; omega)
  have q3 : (decBS (R ++ more)).2 = (if more = [] then 0 else 11) := by
    rw [hRE]
    split
    · rename_i h; rw [h, List.append_nil, decB_enc hz]
    · rename_i h; rw [damB_more hz h]
  obtain ⟨⟨D1, E1⟩, d1⟩ : ∃ q, decBS (R.set i y) = q := ⟨_, rfl⟩
  obtain ⟨⟨D2, E2⟩, d2⟩ : ∃ q, decBS (R.take i) = q := ⟨_, rfl⟩
  obtain ⟨⟨D3, E3⟩, d3⟩ : ∃ q, decBS (R ++ more) = q := ⟨_, rfl⟩
  rw [d1] at q1
  rw [d2] at q2
  rw [d3] at q3
  have p1 : (E1 != 0) = true := by rw [bne_iff_ne]; exact q1
  have p2 : (E2 != 0) = true := by rw [bne_iff_ne]; exact q2
  have p1' : (E1 == 0) = false := beq_eq_false_iff_ne.2 q1
  have p2' : (E2 == 0) = false := beq_eq_false_iff_ne.2 q2
  have HD1 := Lib.hid d1
  have HD2 := Lib.hid d2
  have HD3 := Lib.hid d3
  have HQ3 := Lib.hid q3
  have HX := Lib.hid hx
  have i0 : (0 : Int) ≤ (i : Int) := by omega
  have i1 : (i : Int) < (n : Int) := by omega
  have i2 : (i : Int) ≤ (n : Int) := by omega
  have n0 : ¬ (n : Int) = 0 := by omega
  have n1 : ((n : Int) == 0) = false := beq_eq_false_iff_ne.2 n0
  have n2 : ¬ n = 0 := by omega
  have hne : ¬ R = [] := fun h => by rw [h] at hR0; simp at hR0
  have hne2 : R.isEmpty = false := by simpa using hne
  have hcat : ¬ 9223372036854775807 < n + more.length := by omega
  clear hRE q1 q2 q3 d1 d2 d3 hx hy hxy hR hz hi hc1'
  clear hcc
  rcases hm3 with ⟨hb1', rfl⟩ | ⟨hb1', rfl⟩
  · go_enter Try.func7, Try.ntmps7
    simp only [bunC]
    go_wp2_with fail
    refine (bgreat_any b _ _ (HR.out.below' (by repeat' (first | (with_reducible refine bset ?_ ?_) | (with_reducible exact Below.refl _ _) | (with_reducible assumption) | (with_reducible refine bdrewN ?_ _) | (with_reducible refine bdrew ?_) | (with_reducible refine balloc0 ?_) | (with_reducible refine balloc ?_ ?_) | (with_reducible apply btrans0; rotate_left; with_reducible assumption) | (with_reducible apply btrans; rotate_left; with_reducible assumption) | exact Below.refl _ _ | assumption | (apply btrans0; rotate_left; assumption) | (apply btrans; rotate_left; assumption) | (simp; done) | omega | (simp; omega)))) HF.out).mono ?_
    rintro e w1 ⟨g, rfl, hb1⟩
    obtain ⟨k1, f1⟩ := bcell hb1
    have z1_0 : w.heap.size < w1.heap.size := by have := hb1.size; (try simp at this); omega
    cases g
    case true =>
      go_wp2_with fail
      refine (awake_any _).mono ?_
      rintro e w99 ⟨rfl, hb99⟩
      go_wp2
      go_ret
      exact ⟨rfl, (by repeat' (first | (with_reducible refine bset ?_ ?_) | (with_reducible exact Below.refl _ _) | (with_reducible assumption) | (with_reducible refine bdrewN ?_ _) | (with_reducible refine bdrew ?_) | (with_reducible refine balloc0 ?_) | (with_reducible refine balloc ?_ ?_) | (with_reducible apply btrans0; rotate_left; with_reducible assumption) | (with_reducible apply btrans; rotate_left; with_reducible assumption) | exact Below.refl _ _ | assumption | (apply btrans0; rotate_left; assumption) | (apply btrans; rotate_left; assumption) | (simp; done) | omega | (simp; omega)))⟩
    go_wp2_with fail
    refine (bunEncode_any b _ _ (HR.out.below' (by repeat' (first | (with_reducible refine bset ?_ ?_) | (with_reducible exact Below.refl _ _) | (with_reducible assumption) | (with_reducible refine bdrewN ?_ _) | (with_reducible refine bdrew ?_) | (with_reducible refine balloc0 ?_) | (with_reducible refine balloc ?_ ?_) | (with_reducible apply btrans0; rotate_left; with_reducible assumption) | (with_reducible apply btrans; rotate_left; with_reducible assumption) | exact Below.refl _ _ | assumption | (apply btrans0; rotate_left; assumption) | (apply btrans; rotate_left; assumption) | (simp; done) | omega | (simp; omega)))) HF.out).mono ?_
    rw [HRR.out, HC.out]
    rintro e w2 ⟨rfl, hb2⟩
    obtain ⟨k2, f2⟩ := bcell hb2
    have z2_0 : w.heap.size < w2.heap.size := by have := hb2.size; (try simp at this); omega
    obtain ⟨V, hV⟩ : ∃ V, Lib.bytesWorld w2 5 (B R) = V := ⟨_, rfl⟩
    have HVB : Below w2.heap.size w2 V := by rw [← hV]; exact bytes_below
    have hVc : V.cell? ⟨w2.heap.size, i, none⟩ = some (.int .u8 (x.toNat : Int)) := by rw [← hV]; exact bytes_cell _ _ _ _ _ HX.out
    have hVf : V.frozen? ⟨w2.heap.size, i, none⟩ = false := by rw [← hV]; exact bytes_thaw _ _ _ _ (by omega)
    have hVs : w2.heap.size < V.heap.size := by rw [← hV, Lib.bytesWorld_size]; omega
    have hback := fun cap => bytes_str V w2.heap.size n cap i R y HN.out hin (fun j x' h => by rw [← hV]; exact bytes_cell _ _ _ _ _ h)
    go_wp2_with fail
    refine (bunDecode_any (R.set i y) _ (by rw [List.length_set]; omega)).mono ?_
    rw [HD1.out]
    rintro e w4 ⟨u4, rfl, hu4, _, hb4⟩
    obtain ⟨k4, f4⟩ := bcell hb4
    obtain ⟨xa, xc, rfl, _⟩ := id hu4
    clear hu4
    go_wp2_with fail
    refine (bunDecode_any (R.take i) _ (by rw [List.length_take]; omega)).mono ?_
    rw [HD2.out]
    rintro e w5 ⟨u5, rfl, hu5, _, hb5⟩
    obtain ⟨k5, f5⟩ := bcell hb5
    obtain ⟨ya, yc, rfl, _⟩ := id hu5
    clear hu5
    by_cases hm : more = []
    · have hq := HQ3.out
      rw [if_pos hm] at hq
      have hq' : E3 = 0 := hq
      subst hq'
      subst hm
      have HD3' := HD3.out
      rw [List.append_nil] at HD3'
      have HD4 := Lib.hid HD3'
      clear hq HD3'
      simp only [List.length_nil, Nat.add_zero] at hcat
      go_wp2_with fail
      refine (bunDecode_any R _ (by omega)).mono ?_
      rw [HD4.out]
      rintro e w6 ⟨u6, rfl, hu6, _, hb6⟩
      obtain ⟨k6, f6⟩ := bcell hb6
      obtain ⟨za, zc, rfl, _⟩ := id hu6
      clear hu6
      go_wp2_with fail
      refine (awake_any _).mono ?_
      rintro e w99 ⟨rfl, hb99⟩
      go_wp2
      go_ret
      exact ⟨rfl, (by repeat' (first | (with_reducible refine bset ?_ ?_) | (with_reducible exact Below.refl _ _) | (with_reducible assumption) | (with_reducible refine bdrewN ?_ _) | (with_reducible refine bdrew ?_) | (with_reducible refine balloc0 ?_) | (with_reducible refine balloc ?_ ?_) | (with_reducible apply btrans0; rotate_left; with_reducible assumption) | (with_reducible apply btrans; rotate_left; with_reducible assumption) | exact Below.refl _ _ | assumption | (apply btrans0; rotate_left; assumption) | (apply btrans; rotate_left; assumption) | (simp; done) | omega | (simp; omega)))⟩
    · have hq := HQ3.out
      rw [if_neg hm] at hq
      have hq' : E3 = 11 := hq
      subst hq'
      have hm2 : more.isEmpty = false := by simpa using hm
      clear hq
      go_wp2_with fail
      refine (bunDecode_any (R ++ more) _ (by rw [List.length_append]; omega)).mono ?_
      rw [HD3.out]
      rintro e w6 ⟨u6, rfl, hu6, _, hb6⟩
      obtain ⟨k6, f6⟩ := bcell hb6
      obtain ⟨za, zc, rfl, _⟩ := id hu6
      clear hu6
      go_wp2_with fail
      refine (awake_any _).mono ?_
      rintro e w99 ⟨rfl, hb99⟩
      go_wp2
      go_ret
      exact ⟨rfl, (by repeat' (first | (with_reducible refine bset ?_ ?_) | (with_reducible exact Below.refl _ _) | (with_reducible assumption) | (with_reducible refine bdrewN ?_ _) | (with_reducible refine bdrew ?_) | (with_reducible refine balloc0 ?_) | (with_reducible refine balloc ?_ ?_) | (with_reducible apply btrans0; rotate_left; with_reducible assumption) | (with_reducible apply btrans; rotate_left; with_reducible assumption) | exact Below.refl _ _ | assumption | (apply btrans0; rotate_left; assumption) | (apply btrans; rotate_left; assumption) | (simp; done) | omega | (simp; omega)))⟩
  · go_enter Try.func7, Try.ntmps7
    simp only [bunC]
    go_wp2_with fail
    refine (bgreat_any b _ _ (HR.out.below' (by repeat' (first | (with_reducible refine bset ?_ ?_) | (with_reducible exact Below.refl _ _) | (with_reducible assumption) | (with_reducible refine bdrewN ?_ _) | (with_reducible refine bdrew ?_) | (with_reducible refine balloc0 ?_) | (with_reducible refine balloc ?_ ?_) | (with_reducible apply btrans0; rotate_left; with_reducible assumption) | (with_reducible apply btrans; rotate_left; with_reducible assumption) | exact Below.refl _ _ | assumption | (apply btrans0; rotate_left; assumption) | (apply btrans; rotate_left; assumption) | (simp; done) | omega | (simp; omega)))) HF.out).mono ?_
    rintro e w1 ⟨g, rfl, hb1⟩
    obtain ⟨k1, f1⟩ := bcell hb1
    have z1_0 : w.heap.size < w1.heap.size := by have := hb1.size; (try simp at this); omega
    cases g
    case true =>
      go_wp2_with fail
      refine (awake_any _).mono ?_
      rintro e w99 ⟨rfl, hb99⟩
      go_wp2
      go_ret
      exact ⟨rfl, (by repeat' (first | (with_reducible refine bset ?_ ?_) | (with_reducible exact Below.refl _ _) | (with_reducible assumption) | (with_reducible refine bdrewN ?_ _) | (with_reducible refine bdrew ?_) | (with_reducible refine balloc0 ?_) | (with_reducible refine balloc ?_ ?_) | (with_reducible apply btrans0; rotate_left; with_reducible assumption) | (with_reducible apply btrans; rotate_left; with_reducible assumption) | exact Below.refl _ _ | assumption | (apply btrans0; rotate_left; assumption) | (apply btrans; rotate_left; assumption) | (simp; done) | omega | (simp; omega)))⟩
    go_wp2_with fail
    refine (bunEncode_any b _ _ (HR.out.below' (by repeat' (first | (with_reducible refine bset ?_ ?_) | (with_reducible exact Below.refl _ _) | (with_reducible assumption) | (with_reducible refine bdrewN ?_ _) | (with_reducible refine bdrew ?_) | (with_reducible refine balloc0 ?_) | (with_reducible refine balloc ?_ ?_) | (with_reducible apply btrans0; rotate_left; with_reducible assumption) | (with_reducible apply btrans; rotate_left; with_reducible assumption) | exact Below.refl _ _ | assumption | (apply btrans0; rotate_left; assumption) | (apply btrans; rotate_left; assumption) | (simp; done) | omega | (simp; omega)))) HF.out).mono ?_
    rw [HRR.out, HC.out]
    rintro e w2 ⟨rfl, hb2⟩
    obtain ⟨k2, f2⟩ := bcell hb2
    have z2_0 : w.heap.size < w2.heap.size := by have := hb2.size; (try simp at this); omega
    obtain ⟨V, hV⟩ : ∃ V, Lib.bytesWorld w2 5 (B R) = V := ⟨_, rfl⟩
    have HVB : Below w2.heap.size w2 V := by rw [← hV]; exact bytes_below
    have hVc : V.cell? ⟨w2.heap.size, i, none⟩ = some (.int .u8 (x.toNat : Int)) := by rw [← hV]; exact bytes_cell _ _ _ _ _ HX.out
    have hVf : V.frozen? ⟨w2.heap.size, i, none⟩ = false := by rw [← hV]; exact bytes_thaw _ _ _ _ (by omega)
    have hVs : w2.heap.size < V.heap.size := by rw [← hV, Lib.bytesWorld_size]; omega
    have hback := fun cap => bytes_str V w2.heap.size n cap i R y HN.out hin (fun j x' h => by rw [← hV]; exact bytes_cell _ _ _ _ _ h)
    go_wp2_with fail
    refine (bunDecode_any (R.set i y) _ (by rw [List.length_set]; omega)).mono ?_
    rw [HD1.out]
    rintro e w4 ⟨u4, rfl, hu4, _, hb4⟩
    obtain ⟨k4, f4⟩ := bcell hb4
    obtain ⟨xa, xc, rfl, _⟩ := id hu4
    clear hu4
    go_wp2_with fail
    refine (bunDecode_any (R.take i) _ (by rw [List.length_take]; omega)).mono ?_
    rw [HD2.out]
    rintro e w5 ⟨u5, rfl, hu5, _, hb5⟩
    obtain ⟨k5, f5⟩ := bcell hb5
    obtain ⟨ya, yc, rfl, _⟩ := id hu5
    clear hu5
    by_cases hm : more = []
    · have hq := HQ3.out
      rw [if_pos hm] at hq
      have hq' : E3 = 0 := hq
      subst hq'
      subst hm
      have HD3' := HD3.out
      rw [List.append_nil] at HD3'
      have HD4 := Lib.hid HD3'
      clear hq HD3'
      simp only [List.length_nil, Nat.add_zero] at hcat
      go_wp2_with fail
      refine (bunDecode_any R _ (by omega)).mono ?_
      rw [HD4.out]
      rintro e w6 ⟨u6, rfl, hu6, _, hb6⟩
      obtain ⟨k6, f6⟩ := bcell hb6
      obtain ⟨za, zc, rfl, _⟩ := id hu6
      clear hu6
      go_wp2_with fail
      refine (awake_any _).mono ?_
      rintro e w99 ⟨rfl, hb99⟩
      go_wp2
      go_ret
      exact ⟨rfl, (by repeat' (first | (with_reducible refine bset ?_ ?_) | (with_reducible exact Below.refl _ _) | (with_reducible assumption) | (with_reducible refine bdrewN ?_ _) | (with_reducible refine bdrew ?_) | (with_reducible refine balloc0 ?_) | (with_reducible refine balloc ?_ ?_) | (with_reducible apply btrans0; rotate_left; with_reducible assumption) | (with_reducible apply btrans; rotate_left; with_reducible assumption) | exact Below.refl _ _ | assumption | (apply btrans0; rotate_left; assumption) | (apply btrans; rotate_left; assumption) | (simp; done) | omega | (simp; omega)))⟩
    · have hq := HQ3.out
      rw [if_neg hm] at hq
      have hq' : E3 = 11 := hq
      subst hq'
      have hm2 : more.isEmpty = false := by simpa using hm
      clear hq
      go_wp2_with fail
      refine (bunDecode_any (R ++ more) _ (by rw [List.length_append]; omega)).mono ?_
      rw [HD3.out]
      rintro e w6 ⟨u6, rfl, hu6, _, hb6⟩
      obtain ⟨k6, f6⟩ := bcell hb6
      obtain ⟨za, zc, rfl, _⟩ := id hu6
      clear hu6
      go_wp2_with fail
      refine (awake_any _).mono ?_
      rintro e w99 ⟨rfl, hb99⟩
      go_wp2
      go_ret
      exact ⟨rfl, (by repeat' (first | (with_reducible refine bset ?_ ?_) | (with_reducible exact Below.refl _ _) | (with_reducible assumption) | (with_reducible refine bdrewN ?_ _) | (with_reducible refine bdrew ?_) | (with_reducible refine balloc0 ?_) | (with_reducible refine balloc ?_ ?_) | (with_reducible apply btrans0; rotate_left; with_reducible assumption) | (with_reducible apply btrans; rotate_left; with_reducible assumption) | exact Below.refl _ _ | assumption | (apply btrans0; rotate_left; assumption) | (apply btrans; rotate_left; assumption) | (simp; done) | omega | (simp; omega)))⟩

set_option maxRecDepth 100000 in
theorem lifted (os : Os) (started : os.Started) (H : Type) (enc : TypeId × Value → H) :
    ReturnsInHanded {} Try.checked os 7 .any (Rows.bundleDamageSpec.pre6 enc Try.prog Try.f7 Rows.bundleDamageRow.domain false) (Rows.bundleDamageSpec.post enc Try.prog Try.f7 false true false false) := by
  refine returnsInHanded_of_change (C := Try.checked) own started (by kernel_rfl) Try.func7
    (ChangeSpec.witness6 (enc := enc) (C := Try.checked) false ⟨#[], #[.agg #[.int .i64 0, .int .i64 0, .int .i64 0, .int .i64 0, .int .i64 0, .int .i64 0, .int .i64 0, .int .i64 0, .int .i64 0, .int .i64 0, .slice none 0 0, .string (B [])], .int .u16 0, .int .u8 0, .string (B [])], []⟩ 8 (by kernel_rfl) (by kernel_rfl) (by kernel_rfl) (by kernel_rfl)) ?_
  intro W base args ds gs before hval0 hW hcnd _
  have hval : ∀ (j : Nat) t v, Try.f7.params[j]? = some t → args[j]? = some v → Value.okWide Try.prog W .any base t v := hval0
  have hW' := hW
  obtain ⟨p, q, hA0, hV, rfl, hfz, hnd⟩ := hW
  have hA : DataW.TrodAll enc Try.prog W 0 (fun _ => true) true Try.f7.params.toList args.toList ds p := hA0
  rw [Try.params7] at hA hval
  obtain ⟨v0, vs0, d0, ds0, p0, q0, hargs, rfl, rfl, h0, r0⟩ := trodAll_cons hA
  obtain ⟨v1, vs1, d1, ds1, p1, q1, rfl, rfl, rfl, h1, r1⟩ := trodAll_cons r0
  obtain ⟨v2, vs2, d2, ds2, p2, q2, rfl, rfl, rfl, h2, r2⟩ := trodAll_cons r1
  obtain ⟨v3, vs3, d3, ds3, p3, q3, rfl, rfl, rfl, h3, r3⟩ := trodAll_cons r2
  obtain ⟨rfl, rfl, rfl⟩ := trodAll_nil r3
  obtain rfl : args = #[v0, v1, v2, v3] := by cases args; simp_all
  obtain ⟨x0, u0, rfl, hr0, hf0⟩ := open_bun (hval 0 28 v0 rfl rfl) h0
  obtain ⟨x1, rfl, _, _, wx1⟩ := open_int Try.underlying48 (hval 1 48 v1 rfl rfl) h1
  obtain ⟨x2, rfl, _, _, wx2⟩ := open_int Try.underlying5 (hval 2 5 v2 rfl rfl) h2
  obtain ⟨x3, rfl, hs3⟩ := open_str_arg (hval 3 9 v3 rfl rfl) h3
  refine (walk x0 u0 x1 x2 x3 W hr0 hf0 (by have := wx1; simp [Lit.wf, IntKind.min, IntKind.max, IntKind.signed, IntKind.bits] at this; omega) (by have := wx2; simp [Lit.wf, IntKind.min, IntKind.max, IntKind.signed, IntKind.bits] at this; omega) hs3).mono fun e W' ⟨he, hB⟩ => ?_
  subst he
  refine ⟨_, rfl, law_post (by kernel_rfl) (by kernel_rfl) rfl Try.underlying4 rfl ?_ hW' hB⟩
  intro es hes
  match es, hes with
  | [_, _, _, _], _ => rfl

theorem proved : Rows.BundleDamageSaid :=
  OpenClaim.holds_of_wide 7 Try.f7 rfl rfl rfl rfl rfl rfl rfl ⟨rfl, rfl, rfl, rfl, rfl⟩ rfl rfl rfl rfl rfl (by kernel_rfl) Try.func7 (by kernel_rfl)
    (of_decide_eq_true (by kernel_rfl)) (by unfold Func.isWrapper; first | (rw [if_pos (by decide +kernel)]; kernel_rfl) | (rw [if_neg (by decide +kernel)]; exact ⟨rfl, rfl⟩))
    (fun os started H enc _ => lifted os started H enc)
#print axioms proved
end Go.Proofs.Ythedoidpapodgaa.bundleDamage
