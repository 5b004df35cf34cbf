/-
  Proved: mailboatlaw12.BlockUnknown returns true for every input, and leaves its arguments as they were. No condition.
-/
import Derived.Test.YtdnbegcebloodaaRows
import Derived.Test.YtdnbegcebloodaaGj
import Derived.Test.YtdnbegcebloodaaEg
import Derived.Test.YtdnbegcebloodaaEl
import Derived.Test.YtdnbegcebloodaaPb
import Derived.Test.YtdnbegcebloodaaR
import Derived.Test.YtdnbegcebloodaaL
set_option linter.unusedVariables false
set_option linter.unusedSimpArgs false
namespace Go.Proofs.Ytdnbegcebloodaa.blockUnknown
open Go Go.ChangeShapes Go.WideShapes Go.ChangeAt Go.RowKit Go.Joins Go.Proofs.Ytdnbegcebloodaa
attribute [local go_sem] B_getElem B_size B_app B_extract B_get B_toList
attribute [local go_sem ↓] eqBlk

theorem own : ownKnob Try.prog.godebug = none := by kernel_rfl

set_option maxRecDepth 100000 in
set_option maxHeartbeats 3000000 in
theorem walk (l : List Blk) (u : Value) (known : List Int) (v : Value) (w : World) (hr : RBlks w w.heap.size u l) (hd : ∀ x ∈ l, x.data.length ≤ maxLen) (hk : RInts w w.heap.size v known) :
    Calls Try.prog 6 #[u, v] w (Says w) := by
  obtain ⟨ua, uc, rfl, _⟩ := id hr
  obtain ⟨va, vc, rfl, hvc, hvm, _⟩ := id hk
  unfold maxLen at hvm
  have hkl : known.length ≤ 9223372036854775807 := by omega
  have HR := Lib.hid hr
  have HK := Lib.hid hk
  have HD := Lib.hid hd
  clear hr hk hd
  go_enter Try.func6, Try.ntmps6
  go_wp2_with fail
  refine (lawGreat_any l _ [] _ (HR.out.below (C := w.heap.size) (by repeat' (first | (with_reducible refine bset ?_ ?_) | (with_reducible exact Below.refl _ _) | (with_reducible assumption) | (with_reducible refine bdrewN ?_ _) | (with_reducible refine bdrew ?_) | (with_reducible refine balloc0 ?_) | (with_reducible refine balloc ?_ ?_) | (with_reducible apply btrans0; rotate_left; with_reducible assumption) | (with_reducible apply btrans; rotate_left; with_reducible assumption) | exact Below.refl _ _ | assumption | (apply btrans0; rotate_left; assumption) | (apply btrans; rotate_left; assumption) | (simp; done) | omega | (simp; omega))) (Nat.le_refl _) (by simp)) HD.out (by simp [maxLen])).mono ?_
  rintro e w1 ⟨g, rfl, hb1⟩
  have z1 : w.heap.size < w1.heap.size := by have := hb1.size; simp at this; omega
  have hB1 : Below w.heap.size w w1 := (by repeat' (first | (with_reducible refine bset ?_ ?_) | (with_reducible exact Below.refl _ _) | (with_reducible assumption) | (with_reducible refine bdrewN ?_ _) | (with_reducible refine bdrew ?_) | (with_reducible refine balloc0 ?_) | (with_reducible refine balloc ?_ ?_) | (with_reducible apply btrans0; rotate_left; with_reducible assumption) | (with_reducible apply btrans; rotate_left; with_reducible assumption) | exact Below.refl _ _ | assumption | (apply btrans0; rotate_left; assumption) | (apply btrans; rotate_left; assumption) | (simp; done) | omega | (simp; omega)))
  have K1 : w1.heap[w.heap.size]? = some (.cells #[.slice va known.length vc] 23 (0, 0)) := (hb1.block _ (by simp)).trans heap_new
  clear hb1
  cases g
  case true =>
    go_wp2_with fail
    refine (awake_any _).mono ?_
    rintro e w9 ⟨rfl, hb9⟩
    go_wp2
    go_ret
    exact ⟨rfl, (by repeat' (first | (with_reducible refine bset ?_ ?_) | (with_reducible exact Below.refl _ _) | (with_reducible assumption) | (with_reducible refine bdrewN ?_ _) | (with_reducible refine bdrew ?_) | (with_reducible refine balloc0 ?_) | (with_reducible refine balloc ?_ ?_) | (with_reducible apply btrans0; rotate_left; with_reducible assumption) | (with_reducible apply btrans; rotate_left; with_reducible assumption) | exact Below.refl _ _ | assumption | (apply btrans0; rotate_left; assumption) | (apply btrans; rotate_left; assumption) | (simp; done) | omega | (simp; omega)))⟩
  have ca := fun o => cellB K1 o
  by_cases h20 : 20 < known.length
  · have h20' : (20 : Int) < (known.length : Int) := by omega
    go_wp2_with fail
    refine (awake_any _).mono ?_
    rintro e w9 ⟨rfl, hb9⟩
    go_wp2
    go_ret
    exact ⟨rfl, (by repeat' (first | (with_reducible refine bset ?_ ?_) | (with_reducible exact Below.refl _ _) | (with_reducible assumption) | (with_reducible refine bdrewN ?_ _) | (with_reducible refine bdrew ?_) | (with_reducible refine balloc0 ?_) | (with_reducible refine balloc ?_ ?_) | (with_reducible apply btrans0; rotate_left; with_reducible assumption) | (with_reducible apply btrans; rotate_left; with_reducible assumption) | exact Below.refl _ _ | assumption | (apply btrans0; rotate_left; assumption) | (apply btrans; rotate_left; assumption) | (simp; done) | omega | (simp; omega)))⟩
  have h20' : ¬ (20 : Int) < (known.length : Int) := by omega
  have h20a : decide ((20 : Int) < (known.length : Int)) = false := decide_eq_false h20'
  have h20b : decide (20 < known.length) = false := decide_eq_false h20
  go_wp2_with fail
  refine (checkAll_any l _ _ (HR.out.below hB1 (Nat.le_refl _) hB1.size) HD.out).mono ?_
  by_cases hc : chkAll l = 0
  case neg =>
    have hc' : (chkAll l == 0) = false := beq_eq_false_iff_ne.2 hc
    obtain ⟨E, hE⟩ : ∃ E, chkAll l = E := ⟨_, rfl⟩
    rw [hE] at hc' ⊢
    rintro e w2 ⟨rfl, hb2⟩
    clear hc hE ca
    go_wp2_with fail
    refine (awake_any _).mono ?_
    rintro e w9 ⟨rfl, hb9⟩
    go_wp2
    go_ret
    exact ⟨rfl, (by repeat' (first | (with_reducible refine bset ?_ ?_) | (with_reducible exact Below.refl _ _) | (with_reducible assumption) | (with_reducible refine bdrewN ?_ _) | (with_reducible refine bdrew ?_) | (with_reducible refine balloc0 ?_) | (with_reducible refine balloc ?_ ?_) | (with_reducible apply btrans0; rotate_left; with_reducible assumption) | (with_reducible apply btrans; rotate_left; with_reducible assumption) | exact Below.refl _ _ | assumption | (apply btrans0; rotate_left; assumption) | (apply btrans; rotate_left; assumption) | (simp; done) | omega | (simp; omega)))⟩
  have HF := Lib.hid (chkAll_flags hc)
  have HC := Lib.hid hc
  rw [hc]
  rintro e w2 ⟨rfl, hb2⟩
  have z2 : w1.heap.size ≤ w2.heap.size := hb2.size
  have hB2 : Below w.heap.size w w2 := (by repeat' (first | (with_reducible refine bset ?_ ?_) | (with_reducible exact Below.refl _ _) | (with_reducible assumption) | (with_reducible refine bdrewN ?_ _) | (with_reducible refine bdrew ?_) | (with_reducible refine balloc0 ?_) | (with_reducible refine balloc ?_ ?_) | (with_reducible apply btrans0; rotate_left; with_reducible assumption) | (with_reducible apply btrans; rotate_left; with_reducible assumption) | exact Below.refl _ _ | assumption | (apply btrans0; rotate_left; assumption) | (apply btrans; rotate_left; assumption) | (simp; done) | omega | (simp; omega)))
  have K2 := (hb2.block w.heap.size z1).trans K1
  obtain ⟨hl8, _⟩ := chkAll_zero hc
  clear hb2 hc ca K1 hB1
  have z2' : w.heap.size < w2.heap.size := by omega
  have ca := fun o => cellB K2 o
  go_wp2_with fail
  clear ca
  obtain ⟨W3, hW3⟩ : ∃ W3, w2.alloc (.cells #[.func (.func 25) #[] #[.pointer (some ⟨w.heap.size, 0, none⟩)]] 45) = W3 := ⟨_, rfl⟩
  have z3 : W3.heap.size = w2.heap.size + 1 := by rw [← hW3]; simp
  have hB3 : Below w.heap.size w W3 := by rw [← hW3]; exact (by repeat' (first | (with_reducible refine bset ?_ ?_) | (with_reducible exact Below.refl _ _) | (with_reducible assumption) | (with_reducible refine bdrewN ?_ _) | (with_reducible refine bdrew ?_) | (with_reducible refine balloc0 ?_) | (with_reducible refine balloc ?_ ?_) | (with_reducible apply btrans0; rotate_left; with_reducible assumption) | (with_reducible apply btrans; rotate_left; with_reducible assumption) | exact Below.refl _ _ | assumption | (apply btrans0; rotate_left; assumption) | (apply btrans; rotate_left; assumption) | (simp; done) | omega | (simp; omega)))
  have K3 : W3.heap[w.heap.size]? = some (.cells #[.slice va known.length vc] 23 (0, 0)) := by rw [← hW3]; exact (Below.heap_alloc _ _ _ z2').trans K2
  have U3 : W3.heap[w2.heap.size]? = some (.cells #[.func (.func 25) #[] #[.pointer (some ⟨w.heap.size, 0, none⟩)]] 45 (0, 0)) := by rw [← hW3]; exact heap_new
  rw [hW3]
  clear hW3 K2 hB2
  obtain ⟨R, hR⟩ : ∃ R, l.any (wit known 8) = R := ⟨_, rfl⟩
  obtain ⟨D, hD⟩ : ∃ D, l.any (wit known 2) = D := ⟨_, rfl⟩
  have HRR := Lib.hid hR
  have HDD := Lib.hid hD
  have HPS := Lib.hid (prS_ok (known := known) HC.out)
  rw [hR, hD] at HPS
  clear hR hD
  cases D
  all_goals
    refine (process_any l known _ _ _ (HR.out.below hB3 (Nat.le_refl _) hB3.size) (HK.out.below hB3 (Nat.le_refl _) hB3.size) HD.out).mono ?_
    rw [HPS.out]
    rintro e w4 ⟨u4, rfl, hr4, hb4⟩
    simp only [if_true, if_false, Bool.false_eq_true] at hr4 ⊢
    have z4 : W3.heap.size ≤ w4.heap.size := hb4.size
    have hB4 : Below w.heap.size w w4 := (by repeat' (first | (with_reducible refine bset ?_ ?_) | (with_reducible exact Below.refl _ _) | (with_reducible assumption) | (with_reducible refine bdrewN ?_ _) | (with_reducible refine bdrew ?_) | (with_reducible refine balloc0 ?_) | (with_reducible refine balloc ?_ ?_) | (with_reducible apply btrans0; rotate_left; with_reducible assumption) | (with_reducible apply btrans; rotate_left; with_reducible assumption) | exact Below.refl _ _ | assumption | (apply btrans0; rotate_left; assumption) | (apply btrans; rotate_left; assumption) | (simp; done) | omega | (simp; omega)))
    have K4 := (hb4.block w.heap.size (by omega)).trans K3
    have U4 := (hb4.block w2.heap.size (by omega)).trans U3
    have R4 := Lib.hid hr4
    obtain ⟨a4, c4, rfl, _⟩ := id hr4
    clear hr4 hb4
    go_wp2_with fail
    refine (containsFunc_pred l _ _ _ (unk known 8) _ (HR.out.below hB4 (Nat.le_refl _) hB4.size) ((unk2_pred l known _ w2.heap.size w.heap.size w4.heap.size w4 HF.out (cellB U4 0) (cellB K4 0) (by omega) (by omega) (by omega) (HK.out.below (M := w4.heap.size) hB4 (Nat.le_refl _) (by omega))).at (Nat.le_refl _))).mono ?_
    rw [unk_wit, HRR.out]
    rintro e w5 ⟨rfl, hb5⟩
    have z5 : w4.heap.size ≤ w5.heap.size := hb5.size
    have hB5 : Below w.heap.size w w5 := (by repeat' (first | (with_reducible refine bset ?_ ?_) | (with_reducible exact Below.refl _ _) | (with_reducible assumption) | (with_reducible refine bdrewN ?_ _) | (with_reducible refine bdrew ?_) | (with_reducible refine balloc0 ?_) | (with_reducible refine balloc ?_ ?_) | (with_reducible apply btrans0; rotate_left; with_reducible assumption) | (with_reducible apply btrans; rotate_left; with_reducible assumption) | exact Below.refl _ _ | assumption | (apply btrans0; rotate_left; assumption) | (apply btrans; rotate_left; assumption) | (simp; done) | omega | (simp; omega)))
    have K5 := (hb5.block w.heap.size (by omega)).trans K4
    have U5 := (hb5.block w2.heap.size (by omega)).trans U4
    have R5 := Lib.hid (R4.out.below hb5 (Nat.le_refl _) hb5.size)
    clear hb5 hB4 R4 K4 U4
    go_wp2_with fail
    refine (containsFunc_pred l _ _ _ (unk known 2) _ (HR.out.below hB5 (Nat.le_refl _) hB5.size) ((unk3_pred l known _ w2.heap.size w.heap.size w5.heap.size w5 HF.out (cellB U5 0) (cellB K5 0) (by omega) (by omega) (by omega) (HK.out.below (M := w5.heap.size) hB5 (Nat.le_refl _) (by omega))).at (Nat.le_refl _))).mono ?_
    rw [unk_wit, HDD.out]
    rintro e w6 ⟨rfl, hb6⟩
    have z6 : w5.heap.size ≤ w6.heap.size := hb6.size
    have hB6 : Below w.heap.size w w6 := (by repeat' (first | (with_reducible refine bset ?_ ?_) | (with_reducible exact Below.refl _ _) | (with_reducible assumption) | (with_reducible refine bdrewN ?_ _) | (with_reducible refine bdrew ?_) | (with_reducible refine balloc0 ?_) | (with_reducible refine balloc ?_ ?_) | (with_reducible apply btrans0; rotate_left; with_reducible assumption) | (with_reducible apply btrans; rotate_left; with_reducible assumption) | exact Below.refl _ _ | assumption | (apply btrans0; rotate_left; assumption) | (apply btrans; rotate_left; assumption) | (simp; done) | omega | (simp; omega)))
    have K6 := (hb6.block w.heap.size (by omega)).trans K5
    have U6 := (hb6.block w2.heap.size (by omega)).trans U5
    have R6 := Lib.hid (R5.out.below hb6 (Nat.le_refl _) hb6.size)
    clear hb6 hB5 R5 K5 U5
  · go_wp2_with fail
    refine (clone_any l _ _ (HR.out.below hB6 (Nat.le_refl _) hB6.size) (by omega)).mono ?_
    rintro e w7 ⟨v7, rfl, hb7, hown⟩
    have z7 : w6.heap.size ≤ w7.heap.size := hb7.size
    have hB7 : Below w.heap.size w w7 := (by repeat' (first | (with_reducible refine bset ?_ ?_) | (with_reducible exact Below.refl _ _) | (with_reducible assumption) | (with_reducible refine bdrewN ?_ _) | (with_reducible refine bdrew ?_) | (with_reducible refine balloc0 ?_) | (with_reducible refine balloc ?_ ?_) | (with_reducible apply btrans0; rotate_left; with_reducible assumption) | (with_reducible apply btrans; rotate_left; with_reducible assumption) | exact Below.refl _ _ | assumption | (apply btrans0; rotate_left; assumption) | (apply btrans; rotate_left; assumption) | (simp; done) | omega | (simp; omega)))
    have K7 := (hb7.block w.heap.size (by omega)).trans K6
    have U7 := (hb7.block w2.heap.size (by omega)).trans U6
    have HO := Lib.hid hown
    clear hown
    go_wp2_with fail
    refine (delete_own _ _ (unk known 4) l v7 w6.heap.size w7 hb7.size HO.out (unk4_pred l known _ w2.heap.size w.heap.size w6.heap.size w7 HF.out (cellB U7 0) (cellB K7 0) (by omega) (by omega) (by omega) (HK.out.below (M := w6.heap.size) hB7 (Nat.le_refl _) (by omega))) (by omega)).mono ?_
    rintro e w8 ⟨v8, rfl, hr8, hb8⟩
    have hf : nt (unk known 4) = fun x => !wit known 4 x := by funext x; unfold nt; rw [unk_wit]
    rw [hf] at hr8
    have R8 := Lib.hid (R6.out.below (hb7.trans hb8) (Nat.le_refl _) (hb7.trans hb8).size)
    have H8 := Lib.hid hr8
    have hB8 : Below w.heap.size w w8 := hB6.trans ((hb7.trans hb8).mono (by omega))
    clear hf hr8 hb7 hb8 hB7 hB6 K7 U7 K6 U6 R6
    go_wp2_with fail
    refine (same_any (l.filter (fun x => !wit known 4 x)) _ _ _ R8.out H8.out).mono ?_
    rintro e w10 ⟨rfl, hb10⟩
    have hB10 : Below w.heap.size w w10 := (by repeat' (first | (with_reducible refine bset ?_ ?_) | (with_reducible exact Below.refl _ _) | (with_reducible assumption) | (with_reducible refine bdrewN ?_ _) | (with_reducible refine bdrew ?_) | (with_reducible refine balloc0 ?_) | (with_reducible refine balloc ?_ ?_) | (with_reducible apply btrans0; rotate_left; with_reducible assumption) | (with_reducible apply btrans; rotate_left; with_reducible assumption) | exact Below.refl _ _ | assumption | (apply btrans0; rotate_left; assumption) | (apply btrans; rotate_left; assumption) | (simp; done) | omega | (simp; omega)))
    clear hb10 hB8
    go_wp2_with fail
    refine (awake_any _).mono ?_
    rintro e w9 ⟨rfl, hb9⟩
    go_wp2
    go_ret
    exact ⟨rfl, (by repeat' (first | (with_reducible refine bset ?_ ?_) | (with_reducible exact Below.refl _ _) | (with_reducible assumption) | (with_reducible refine bdrewN ?_ _) | (with_reducible refine bdrew ?_) | (with_reducible refine balloc0 ?_) | (with_reducible refine balloc ?_ ?_) | (with_reducible apply btrans0; rotate_left; with_reducible assumption) | (with_reducible apply btrans; rotate_left; with_reducible assumption) | exact Below.refl _ _ | assumption | (apply btrans0; rotate_left; assumption) | (apply btrans; rotate_left; assumption) | (simp; done) | omega | (simp; omega)))⟩
  · go_wp2_with fail
    refine (awake_any _).mono ?_
    rintro e w9 ⟨rfl, hb9⟩
    go_wp2
    go_ret
    exact ⟨rfl, (by repeat' (first | (with_reducible refine bset ?_ ?_) | (with_reducible exact Below.refl _ _) | (with_reducible assumption) | (with_reducible refine bdrewN ?_ _) | (with_reducible refine bdrew ?_) | (with_reducible refine balloc0 ?_) | (with_reducible refine balloc ?_ ?_) | (with_reducible apply btrans0; rotate_left; with_reducible assumption) | (with_reducible apply btrans; rotate_left; with_reducible assumption) | exact Below.refl _ _ | assumption | (apply btrans0; rotate_left; assumption) | (apply btrans; rotate_left; assumption) | (simp; done) | omega | (simp; omega)))⟩

set_option maxRecDepth 100000 in
theorem lifted (os : Os) (started : os.Started) (H : Type) (enc : TypeId × Value → H) :
    ReturnsInHanded {} Try.checked os 6 .any (Rows.blockUnknownSpec.pre6 enc Try.prog Try.f6 Rows.blockUnknownRow.domain false) (Rows.blockUnknownSpec.post enc Try.prog Try.f6 false true false false) := by
  refine returnsInHanded_of_change (C := Try.checked) own started (by kernel_rfl) Try.func6
    (ChangeSpec.witness6 (enc := enc) (C := Try.checked) false ⟨#[], #[.slice none 0 0, .slice none 0 0], []⟩ 8 (by kernel_rfl) (by kernel_rfl) (by kernel_rfl) (by kernel_rfl)) ?_
  intro W base args ds gs before hval0 hW hcnd _
  have hval : ∀ (j : Nat) t v, Try.f6.params[j]? = some t → args[j]? = some v → Value.okWide Try.prog W .any base t v := hval0
  have hW' := hW
  obtain ⟨p, q, hA0, hV, rfl, hfz, hnd⟩ := hW
  have hA : DataW.TrodAll enc Try.prog W 0 (fun _ => true) true Try.f6.params.toList args.toList ds p := hA0
  rw [Try.params6] at hA hval
  obtain ⟨v0, vs0, d0, ds0, p0, q0, hargs, rfl, rfl, h0, r0⟩ := trodAll_cons hA
  obtain ⟨v1, vs1, d1, ds1, p1, q1, rfl, rfl, rfl, h1, r1⟩ := trodAll_cons r0
  obtain ⟨rfl, rfl, rfl⟩ := trodAll_nil r1
  obtain rfl : args = #[v0, v1] := by cases args; simp_all
  obtain ⟨x0, hr0, hd0⟩ := open_blks_arg (hval 0 22 v0 rfl rfl) h0
  obtain ⟨x1, hr1⟩ := open_ints_arg (hval 1 23 v1 rfl rfl) h1
  refine (walk x0 v0 x1 v1 W hr0 hd0 hr1).mono fun e W' ⟨he, hB⟩ => ?_
  subst he
  refine ⟨_, rfl, law_post (by kernel_rfl) (by kernel_rfl) rfl Try.underlying4 rfl ?_ hW' hB⟩
  intro es hes
  match es, hes with
  | [_, _], _ => rfl

theorem proved : Rows.BlockUnknownSaid :=
  OpenClaim.holds_of_wide 6 Try.f6 rfl rfl rfl rfl rfl rfl rfl ⟨rfl, rfl, rfl, rfl, rfl⟩ rfl rfl rfl rfl rfl (by kernel_rfl) Try.func6 (by kernel_rfl)
    (of_decide_eq_true (by kernel_rfl)) (by unfold Func.isWrapper; first | (rw [if_pos (by decide +kernel)]; kernel_rfl) | (rw [if_neg (by decide +kernel)]; exact ⟨rfl, rfl⟩))
    (fun os started H enc _ => lifted os started H enc)
#print axioms proved
end Go.Proofs.Ytdnbegcebloodaa.blockUnknown
