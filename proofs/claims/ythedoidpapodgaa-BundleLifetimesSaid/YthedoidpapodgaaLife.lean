/-
  Proved: mailboatlaw13.BundleLifetimes returns true for every input, and leaves its arguments as they were. No condition.
-/
import Derived.Test.YthedoidpapodgaaRows
import Derived.Test.YthedoidpapodgaaJa
import Derived.Test.YthedoidpapodgaaJn
import Derived.Test.YthedoidpapodgaaTk
import Derived.Test.YthedoidpapodgaaTi
import Derived.Test.YthedoidpapodgaaTg
import Derived.Test.YthedoidpapodgaaTd
import Derived.Test.YthedoidpapodgaaTl
set_option linter.unusedVariables false
set_option linter.unusedSimpArgs false
namespace Go.Proofs.Ythedoidpapodgaa.bundleLifetimes
open Go Go.ChangeShapes Go.WideShapes Go.ChangeAt Go.RowKit Go.Joins Go.Proofs.Ythedoidpapodgaa
attribute [local go_sem] B_getElem B_size B_app B_extract B_get B_toList

theorem own : ownKnob Try.prog.godebug = none := by kernel_rfl

attribute [local go_sem] bunC idV
attribute [local go_sem ↓] eqId eqEnd
set_option maxRecDepth 100000 in
set_option maxHeartbeats 4000000 in
theorem walk (b : Bun) (u : Value) (now : Int) (w : World) (hr : RBlks w w.heap.size u b.blocks) (hf : Fits b) :
    Calls Try.prog 10 #[.agg (bunC b u).toArray, .int .i64 now] w (Says w) := by
  obtain ⟨ua, uc, rfl, _⟩ := id hr
  have HR := Lib.hid hr
  have HF := Lib.hid hf
  clear hr hf
  by_cases hz : chkE b = 0
  case neg =>
    have hx : expS b = 0 := by unfold expS; rw [if_pos hz]
    have hd : expdS b now = false := by unfold expdS; simp [hz]
    have HX := Lib.hid hx
    have HD := Lib.hid hd
    obtain ⟨C, hC⟩ : ∃ q, chkE b = q := ⟨_, rfl⟩
    rw [hC] at hz
    have HC := Lib.hid hC
    have hz' : (C != 0) = true := by rw [bne_iff_ne]; exact hz
    clear hx hd hC hz
    go_enter Try.func10, Try.ntmps10
    simp only [bunC]
    go_wp2_with fail
    refine (bgreat_any b _ _ (HR.out.below' (by repeat' (first | (with_reducible refine bset ?_ ?_) | (with_reducible exact Below.refl _ _) | (with_reducible assumption) | (with_reducible refine bdrewN ?_ _) | (with_reducible refine bdrew ?_) | (with_reducible refine balloc0 ?_) | (with_reducible refine balloc ?_ ?_) | (with_reducible apply btrans0; rotate_left; with_reducible assumption) | (with_reducible apply btrans; rotate_left; with_reducible assumption) | exact Below.refl _ _ | assumption | (apply btrans0; rotate_left; assumption) | (apply btrans; rotate_left; assumption) | (simp; done) | omega | (simp; omega)))) HF.out).mono ?_
    rintro e w1 ⟨g, rfl, hb1⟩
    obtain ⟨k1, f1⟩ := bcell hb1
    have z1_0 : w.heap.size < w1.heap.size := by have := hb1.size; (try simp at this); omega
    cases g
    case true =>
      go_wp2_with fail
      refine (awake_any _).mono ?_
      rintro e w99 ⟨rfl, hb99⟩
      go_wp2
      go_ret
      exact ⟨rfl, (by repeat' (first | (with_reducible refine bset ?_ ?_) | (with_reducible exact Below.refl _ _) | (with_reducible assumption) | (with_reducible refine bdrewN ?_ _) | (with_reducible refine bdrew ?_) | (with_reducible refine balloc0 ?_) | (with_reducible refine balloc ?_ ?_) | (with_reducible apply btrans0; rotate_left; with_reducible assumption) | (with_reducible apply btrans; rotate_left; with_reducible assumption) | exact Below.refl _ _ | assumption | (apply btrans0; rotate_left; assumption) | (apply btrans; rotate_left; assumption) | (simp; done) | omega | (simp; omega)))⟩
    go_wp2_with fail
    refine (expires_any b _ _ (HR.out.below' (by repeat' (first | (with_reducible refine bset ?_ ?_) | (with_reducible exact Below.refl _ _) | (with_reducible assumption) | (with_reducible refine bdrewN ?_ _) | (with_reducible refine bdrew ?_) | (with_reducible refine balloc0 ?_) | (with_reducible refine balloc ?_ ?_) | (with_reducible apply btrans0; rotate_left; with_reducible assumption) | (with_reducible apply btrans; rotate_left; with_reducible assumption) | exact Below.refl _ _ | assumption | (apply btrans0; rotate_left; assumption) | (apply btrans; rotate_left; assumption) | (simp; done) | omega | (simp; omega)))) HF.out).mono ?_
    rw [HX.out]
    rintro e w2 ⟨rfl, hb2⟩
    obtain ⟨k2, f2⟩ := bcell hb2
    have z2_0 : w.heap.size < w2.heap.size := by have := hb2.size; (try simp at this); omega
    go_wp2_with fail
    refine (check_any b _ _ (HR.out.below' (by repeat' (first | (with_reducible refine bset ?_ ?_) | (with_reducible exact Below.refl _ _) | (with_reducible assumption) | (with_reducible refine bdrewN ?_ _) | (with_reducible refine bdrew ?_) | (with_reducible refine balloc0 ?_) | (with_reducible refine balloc ?_ ?_) | (with_reducible apply btrans0; rotate_left; with_reducible assumption) | (with_reducible apply btrans; rotate_left; with_reducible assumption) | exact Below.refl _ _ | assumption | (apply btrans0; rotate_left; assumption) | (apply btrans; rotate_left; assumption) | (simp; done) | omega | (simp; omega)))) HF.out).mono ?_
    rw [HC.out]
    rintro e w3 ⟨rfl, hb3⟩
    obtain ⟨k3, f3⟩ := bcell hb3
    have z3_0 : w.heap.size < w3.heap.size := by have := hb3.size; (try simp at this); omega
    go_wp2_with fail
    refine (expired_any b _ now _ (HR.out.below' (by repeat' (first | (with_reducible refine bset ?_ ?_) | (with_reducible exact Below.refl _ _) | (with_reducible assumption) | (with_reducible refine bdrewN ?_ _) | (with_reducible refine bdrew ?_) | (with_reducible refine balloc0 ?_) | (with_reducible refine balloc ?_ ?_) | (with_reducible apply btrans0; rotate_left; with_reducible assumption) | (with_reducible apply btrans; rotate_left; with_reducible assumption) | exact Below.refl _ _ | assumption | (apply btrans0; rotate_left; assumption) | (apply btrans; rotate_left; assumption) | (simp; done) | omega | (simp; omega)))) HF.out).mono ?_
    rw [HD.out]
    rintro e w4 ⟨rfl, hb4⟩
    obtain ⟨k4, f4⟩ := bcell hb4
    have z4_0 : w.heap.size < w4.heap.size := by have := hb4.size; (try simp at this); omega
    go_wp2_with fail
    refine (awake_any _).mono ?_
    rintro e w99 ⟨rfl, hb99⟩
    go_wp2
    go_ret
    exact ⟨rfl, (by repeat' (first | (with_reducible refine bset ?_ ?_) | (with_reducible exact Below.refl _ _) | (with_reducible assumption) | (with_reducible refine bdrewN ?_ _) | (with_reducible refine bdrew ?_) | (with_reducible refine balloc0 ?_) | (with_reducible refine balloc ?_ ?_) | (with_reducible apply btrans0; rotate_left; with_reducible assumption) | (with_reducible apply btrans; rotate_left; with_reducible assumption) | exact Below.refl _ _ | assumption | (apply btrans0; rotate_left; assumption) | (apply btrans; rotate_left; assumption) | (simp; done) | omega | (simp; omega)))⟩
  obtain ⟨f1, f2, f3, f4⟩ := exp_facts hz
  have hx : expS b = b.crt + b.life := by unfold expS; rw [if_neg (by simp [hz])]
  have d1 : expdS b b.crt = false := by unfold expdS; simp [hz]; omega
  obtain ⟨X, hX⟩ : ∃ q, b.crt + b.life = q := ⟨_, rfl⟩
  have d2 : expdS b (X - 1) = false := by unfold expdS; simp [hz]; omega
  have d3 : expdS b X = true := by unfold expdS; simp [hz]; omega
  have d4 : expdS b now = decide (X ≤ now) := by unfold expdS; simp [hz, hX]
  rw [hX] at hx f4
  have x1 : b.crt < X := by omega
  have x2 : X ≤ 1099511627776 := f4
  have x3 : IntKind.i64.wrap (X - 1) = X - 1 := by rw [IntKind.wrap_i64]; omega
  have x4 : 0 ≤ X - 1 := by omega
  have HX := Lib.hid hx
  have D1 := Lib.hid d1
  have D2 := Lib.hid d2
  have D3 := Lib.hid d3
  have D4 := Lib.hid d4
  have HZ := Lib.hid hz
  clear hx hX d1 d2 d3 d4 hz
  go_enter Try.func10, Try.ntmps10
  simp only [bunC]
  go_wp2_with fail
  refine (bgreat_any b _ _ (HR.out.below' (by repeat' (first | (with_reducible refine bset ?_ ?_) | (with_reducible exact Below.refl _ _) | (with_reducible assumption) | (with_reducible refine bdrewN ?_ _) | (with_reducible refine bdrew ?_) | (with_reducible refine balloc0 ?_) | (with_reducible refine balloc ?_ ?_) | (with_reducible apply btrans0; rotate_left; with_reducible assumption) | (with_reducible apply btrans; rotate_left; with_reducible assumption) | exact Below.refl _ _ | assumption | (apply btrans0; rotate_left; assumption) | (apply btrans; rotate_left; assumption) | (simp; done) | omega | (simp; omega)))) HF.out).mono ?_
  rintro e w1 ⟨g, rfl, hb1⟩
  obtain ⟨k1, f1⟩ := bcell hb1
  have z1_0 : w.heap.size < w1.heap.size := by have := hb1.size; (try simp at this); omega
  cases g
  case true =>
    go_wp2_with fail
    refine (awake_any _).mono ?_
    rintro e w99 ⟨rfl, hb99⟩
    go_wp2
    go_ret
    exact ⟨rfl, (by repeat' (first | (with_reducible refine bset ?_ ?_) | (with_reducible exact Below.refl _ _) | (with_reducible assumption) | (with_reducible refine bdrewN ?_ _) | (with_reducible refine bdrew ?_) | (with_reducible refine balloc0 ?_) | (with_reducible refine balloc ?_ ?_) | (with_reducible apply btrans0; rotate_left; with_reducible assumption) | (with_reducible apply btrans; rotate_left; with_reducible assumption) | exact Below.refl _ _ | assumption | (apply btrans0; rotate_left; assumption) | (apply btrans; rotate_left; assumption) | (simp; done) | omega | (simp; omega)))⟩
  go_wp2_with fail
  refine (expires_any b _ _ (HR.out.below' (by repeat' (first | (with_reducible refine bset ?_ ?_) | (with_reducible exact Below.refl _ _) | (with_reducible assumption) | (with_reducible refine bdrewN ?_ _) | (with_reducible refine bdrew ?_) | (with_reducible refine balloc0 ?_) | (with_reducible refine balloc ?_ ?_) | (with_reducible apply btrans0; rotate_left; with_reducible assumption) | (with_reducible apply btrans; rotate_left; with_reducible assumption) | exact Below.refl _ _ | assumption | (apply btrans0; rotate_left; assumption) | (apply btrans; rotate_left; assumption) | (simp; done) | omega | (simp; omega)))) HF.out).mono ?_
  rw [HX.out]
  rintro e w2 ⟨rfl, hb2⟩
  obtain ⟨k2, f2⟩ := bcell hb2
  have z2_0 : w.heap.size < w2.heap.size := by have := hb2.size; (try simp at this); omega
  go_wp2_with fail
  refine (check_any b _ _ (HR.out.below' (by repeat' (first | (with_reducible refine bset ?_ ?_) | (with_reducible exact Below.refl _ _) | (with_reducible assumption) | (with_reducible refine bdrewN ?_ _) | (with_reducible refine bdrew ?_) | (with_reducible refine balloc0 ?_) | (with_reducible refine balloc ?_ ?_) | (with_reducible apply btrans0; rotate_left; with_reducible assumption) | (with_reducible apply btrans; rotate_left; with_reducible assumption) | exact Below.refl _ _ | assumption | (apply btrans0; rotate_left; assumption) | (apply btrans; rotate_left; assumption) | (simp; done) | omega | (simp; omega)))) HF.out).mono ?_
  rw [HZ.out]
  rintro e w3 ⟨rfl, hb3⟩
  obtain ⟨k3, f3⟩ := bcell hb3
  have z3_0 : w.heap.size < w3.heap.size := by have := hb3.size; (try simp at this); omega
  go_wp2_with fail
  refine (expired_any b _ b.crt _ (HR.out.below' (by repeat' (first | (with_reducible refine bset ?_ ?_) | (with_reducible exact Below.refl _ _) | (with_reducible assumption) | (with_reducible refine bdrewN ?_ _) | (with_reducible refine bdrew ?_) | (with_reducible refine balloc0 ?_) | (with_reducible refine balloc ?_ ?_) | (with_reducible apply btrans0; rotate_left; with_reducible assumption) | (with_reducible apply btrans; rotate_left; with_reducible assumption) | exact Below.refl _ _ | assumption | (apply btrans0; rotate_left; assumption) | (apply btrans; rotate_left; assumption) | (simp; done) | omega | (simp; omega)))) HF.out).mono ?_
  rw [D1.out]
  rintro e w4 ⟨rfl, hb4⟩
  obtain ⟨k4, f4⟩ := bcell hb4
  have z4_0 : w.heap.size < w4.heap.size := by have := hb4.size; (try simp at this); omega
  go_wp2_with fail
  refine (expired_any b _ (X - 1) _ (HR.out.below' (by repeat' (first | (with_reducible refine bset ?_ ?_) | (with_reducible exact Below.refl _ _) | (with_reducible assumption) | (with_reducible refine bdrewN ?_ _) | (with_reducible refine bdrew ?_) | (with_reducible refine balloc0 ?_) | (with_reducible refine balloc ?_ ?_) | (with_reducible apply btrans0; rotate_left; with_reducible assumption) | (with_reducible apply btrans; rotate_left; with_reducible assumption) | exact Below.refl _ _ | assumption | (apply btrans0; rotate_left; assumption) | (apply btrans; rotate_left; assumption) | (simp; done) | omega | (simp; omega)))) HF.out).mono ?_
  rw [D2.out]
  rintro e w5 ⟨rfl, hb5⟩
  obtain ⟨k5, f5⟩ := bcell hb5
  have z5_0 : w.heap.size < w5.heap.size := by have := hb5.size; (try simp at this); omega
  go_wp2_with fail
  refine (expired_any b _ X _ (HR.out.below' (by repeat' (first | (with_reducible refine bset ?_ ?_) | (with_reducible exact Below.refl _ _) | (with_reducible assumption) | (with_reducible refine bdrewN ?_ _) | (with_reducible refine bdrew ?_) | (with_reducible refine balloc0 ?_) | (with_reducible refine balloc ?_ ?_) | (with_reducible apply btrans0; rotate_left; with_reducible assumption) | (with_reducible apply btrans; rotate_left; with_reducible assumption) | exact Below.refl _ _ | assumption | (apply btrans0; rotate_left; assumption) | (apply btrans; rotate_left; assumption) | (simp; done) | omega | (simp; omega)))) HF.out).mono ?_
  rw [D3.out]
  rintro e w6 ⟨rfl, hb6⟩
  obtain ⟨k6, f6⟩ := bcell hb6
  have z6_0 : w.heap.size < w6.heap.size := by have := hb6.size; (try simp at this); omega
  go_wp2_with fail
  refine (expired_any b _ now _ (HR.out.below' (by repeat' (first | (with_reducible refine bset ?_ ?_) | (with_reducible exact Below.refl _ _) | (with_reducible assumption) | (with_reducible refine bdrewN ?_ _) | (with_reducible refine bdrew ?_) | (with_reducible refine balloc0 ?_) | (with_reducible refine balloc ?_ ?_) | (with_reducible apply btrans0; rotate_left; with_reducible assumption) | (with_reducible apply btrans; rotate_left; with_reducible assumption) | exact Below.refl _ _ | assumption | (apply btrans0; rotate_left; assumption) | (apply btrans; rotate_left; assumption) | (simp; done) | omega | (simp; omega)))) HF.out).mono ?_
  rw [D4.out]
  rintro e w7 ⟨rfl, hb7⟩
  obtain ⟨k7, f7⟩ := bcell hb7
  have z7_0 : w.heap.size < w7.heap.size := by have := hb7.size; (try simp at this); omega
  go_wp2_with fail
  refine (awake_any _).mono ?_
  rintro e w99 ⟨rfl, hb99⟩
  go_wp2
  go_ret
  exact ⟨rfl, (by repeat' (first | (with_reducible refine bset ?_ ?_) | (with_reducible exact Below.refl _ _) | (with_reducible assumption) | (with_reducible refine bdrewN ?_ _) | (with_reducible refine bdrew ?_) | (with_reducible refine balloc0 ?_) | (with_reducible refine balloc ?_ ?_) | (with_reducible apply btrans0; rotate_left; with_reducible assumption) | (with_reducible apply btrans; rotate_left; with_reducible assumption) | exact Below.refl _ _ | assumption | (apply btrans0; rotate_left; assumption) | (apply btrans; rotate_left; assumption) | (simp; done) | omega | (simp; omega)))⟩

set_option maxRecDepth 100000 in
theorem lifted (os : Os) (started : os.Started) (H : Type) (enc : TypeId × Value → H) :
    ReturnsInHanded {} Try.checked os 10 .any (Rows.bundleLifetimesSpec.pre6 enc Try.prog Try.f10 Rows.bundleLifetimesRow.domain false) (Rows.bundleLifetimesSpec.post enc Try.prog Try.f10 false true false false) := by
  refine returnsInHanded_of_change (C := Try.checked) own started (by kernel_rfl) Try.func10
    (ChangeSpec.witness6 (enc := enc) (C := Try.checked) false ⟨#[], #[.agg #[.int .i64 0, .int .i64 0, .int .i64 0, .int .i64 0, .int .i64 0, .int .i64 0, .int .i64 0, .int .i64 0, .int .i64 0, .int .i64 0, .slice none 0 0, .string (B [])], .int .i64 0], []⟩ 8 (by kernel_rfl) (by kernel_rfl) (by kernel_rfl) (by kernel_rfl)) ?_
  intro W base args ds gs before hval0 hW hcnd _
  have hval : ∀ (j : Nat) t v, Try.f10.params[j]? = some t → args[j]? = some v → Value.okWide Try.prog W .any base t v := hval0
  have hW' := hW
  obtain ⟨p, q, hA0, hV, rfl, hfz, hnd⟩ := hW
  have hA : DataW.TrodAll enc Try.prog W 0 (fun _ => true) true Try.f10.params.toList args.toList ds p := hA0
  rw [Try.params10] at hA hval
  obtain ⟨v0, vs0, d0, ds0, p0, q0, hargs, rfl, rfl, h0, r0⟩ := trodAll_cons hA
  obtain ⟨v1, vs1, d1, ds1, p1, q1, rfl, rfl, rfl, h1, r1⟩ := trodAll_cons r0
  obtain ⟨rfl, rfl, rfl⟩ := trodAll_nil r1
  obtain rfl : args = #[v0, v1] := by cases args; simp_all
  obtain ⟨x0, u0, rfl, hr0, hf0⟩ := open_bun (hval 0 28 v0 rfl rfl) h0
  obtain ⟨x1, rfl, _, _, wx1⟩ := open_int Try.underlying3 (hval 1 3 v1 rfl rfl) h1
  refine (walk x0 u0 x1 W hr0 hf0).mono fun e W' ⟨he, hB⟩ => ?_
  subst he
  refine ⟨_, rfl, law_post (by kernel_rfl) (by kernel_rfl) rfl Try.underlying4 rfl ?_ hW' hB⟩
  intro es hes
  match es, hes with
  | [_, _], _ => rfl

theorem proved : Rows.BundleLifetimesSaid :=
  OpenClaim.holds_of_wide 10 Try.f10 rfl rfl rfl rfl rfl rfl rfl ⟨rfl, rfl, rfl, rfl, rfl⟩ rfl rfl rfl rfl rfl (by kernel_rfl) Try.func10 (by kernel_rfl)
    (of_decide_eq_true (by kernel_rfl)) (by unfold Func.isWrapper; first | (rw [if_pos (by decide +kernel)]; kernel_rfl) | (rw [if_neg (by decide +kernel)]; exact ⟨rfl, rfl⟩))
    (fun os started H enc _ => lifted os started H enc)
#print axioms proved
end Go.Proofs.Ythedoidpapodgaa.bundleLifetimes
