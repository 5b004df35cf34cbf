/-
  Proved: mailboatlaw19.AggregatePack returns true for every input, and leaves its arguments as they were. No condition.
-/
import Derived.Test.YtpkklmkeflddkaaRows
import Derived.Test.YtpkklmkeflddkaaJa
import Derived.Test.YtpkklmkeflddkaaJn
import Derived.Test.YtpkklmkeflddkaaQl
import Derived.Test.YtpkklmkeflddkaaQu
import Derived.Test.YtpkklmkeflddkaaQw
set_option linter.unusedVariables false
set_option linter.unusedSimpArgs false
namespace Go.Proofs.Ytpkklmkeflddkaa.aggregatePack
open Go Go.ChangeShapes Go.WideShapes Go.ChangeAt Go.RowKit Go.Joins Go.Proofs.Ytpkklmkeflddkaa
attribute [local go_sem] B_getElem B_size B_app B_extract B_get B_toList

theorem own : ownKnob Try.prog.godebug = none := by kernel_rfl

attribute [local go_sem] Oper.semAt_some
attribute [local go_sem ↓] neEndI
theorem _root_.Go.Proofs.Ytpkklmkeflddkaa.OwnG.small {w : World} {B : Nat} {v : Value} {gs : List (List Int)} (h : OwnG w B v gs) : gs.length ≤ 9223372036854775807 := by
  obtain ⟨vals, h, _⟩ := h
  rcases h.2 with ⟨_, h0⟩ | ⟨g, cap, cur, _, _, _, h1, h2, _⟩
  · omega
  · unfold maxLen at h2; omega
set_option maxRecDepth 100000 in
set_option maxHeartbeats 16000000 in
theorem way1 (l : List Int) (v : Value) (most : Int) (w : World) (hr : RInts w w.heap.size v l) (d1 : decide ((l.length : Int) > 40) = false) (d3 : decide ((l.length : Int) > 1005) = false) :
    Calls Try.prog 4 #[v, .int .i64 most] w (Says w) := by
  obtain ⟨⟨gs, E⟩, hs⟩ : ∃ q, packS l most = q := ⟨_, rfl⟩
  have HS := Lib.hid hs
  clear hs
  obtain ⟨a, c, rfl, _⟩ := id hr
  have HR := Lib.hid hr
  clear hr
  have dE : (E == E) = true := by simp
  go_enter Try.func4, Try.ntmps4
  go_wp2_with fail
  refine (pack_any l _ most _ (HR.out.upto (by repeat' (first | with_reducible (first | refine bset ?_ ?_ | exact Below.refl _ _ | assumption | refine bdrewN ?_ _ | refine bdrew ?_ | refine balloc0 ?_ | refine balloc ?_ ?_ | (apply btrans0; rotate_left; assumption) | (apply btrans; rotate_left; assumption)) | exact Below.refl _ _ | assumption | (apply btrans0; rotate_left; assumption) | (apply btrans; rotate_left; assumption) | (simp; done) | omega | (simp; omega))))).mono ?_
  unfold PackPost
  rw [HS.out]
  rintro e w1 ⟨r, rfl, hb1, hg1⟩
  simp only at hg1
  obtain ⟨ra, rc, rfl⟩ := hg1.len
  have HG1 := Lib.hid hg1
  have hB1 : Below w.heap.size w w1 := (by repeat' (first | with_reducible (first | refine bset ?_ ?_ | exact Below.refl _ _ | assumption | refine bdrewN ?_ _ | refine bdrew ?_ | refine balloc0 ?_ | refine balloc ?_ ?_ | (apply btrans0; rotate_left; assumption) | (apply btrans; rotate_left; assumption)) | exact Below.refl _ _ | assumption | (apply btrans0; rotate_left; assumption) | (apply btrans; rotate_left; assumption) | (simp; done) | omega | (simp; omega)))
  clear hg1
  go_wp2_with fail
  refine (rpack_any l _ most _ (HR.out.upto (by repeat' (first | with_reducible (first | refine bset ?_ ?_ | exact Below.refl _ _ | assumption | refine bdrewN ?_ _ | refine bdrew ?_ | refine balloc0 ?_ | refine balloc ?_ ?_ | (apply btrans0; rotate_left; assumption) | (apply btrans; rotate_left; assumption)) | exact Below.refl _ _ | assumption | (apply btrans0; rotate_left; assumption) | (apply btrans; rotate_left; assumption) | (simp; done) | omega | (simp; omega))))).mono ?_
  unfold PackPost
  rw [HS.out]
  rintro e w2 ⟨r, rfl, hb2, hg2⟩
  simp only at hg2
  obtain ⟨rb, rd, rfl⟩ := hg2.len
  have HG2 := Lib.hid hg2
  have HLN := Lib.hid hg2.small
  have hB2 : Below w.heap.size w w2 := (by repeat' (first | with_reducible (first | refine bset ?_ ?_ | exact Below.refl _ _ | assumption | refine bdrewN ?_ _ | refine bdrew ?_ | refine balloc0 ?_ | refine balloc ?_ ?_ | (apply btrans0; rotate_left; assumption) | (apply btrans; rotate_left; assumption)) | exact Below.refl _ _ | assumption | (apply btrans0; rotate_left; assumption) | (apply btrans; rotate_left; assumption) | (simp; done) | omega | (simp; omega)))
  clear hg2
  go_wp2_with fail
  refine (sameGroups_any gs _ _ _ _ _ (HG1.out.step (by repeat' (first | with_reducible (first | refine bset ?_ ?_ | exact Below.refl _ _ | assumption | refine bdrewN ?_ _ | refine bdrew ?_ | refine balloc0 ?_ | refine balloc ?_ ?_ | (apply btrans0; rotate_left; assumption) | (apply btrans; rotate_left; assumption)) | exact Below.refl _ _ | assumption | (apply btrans0; rotate_left; assumption) | (apply btrans; rotate_left; assumption) | (simp; done) | omega | (simp; omega)))) (HG2.out.step (by repeat' (first | with_reducible (first | refine bset ?_ ?_ | exact Below.refl _ _ | assumption | refine bdrewN ?_ _ | refine bdrew ?_ | refine balloc0 ?_ | refine balloc ?_ ?_ | (apply btrans0; rotate_left; assumption) | (apply btrans; rotate_left; assumption)) | exact Below.refl _ _ | assumption | (apply btrans0; rotate_left; assumption) | (apply btrans; rotate_left; assumption) | (simp; done) | omega | (simp; omega)))) HLN.out).mono ?_
  rintro e w3 ⟨rfl, hb3⟩
  have hB3 : Below w.heap.size w w3 := (by repeat' (first | with_reducible (first | refine bset ?_ ?_ | exact Below.refl _ _ | assumption | refine bdrewN ?_ _ | refine bdrew ?_ | refine balloc0 ?_ | refine balloc ?_ ?_ | (apply btrans0; rotate_left; assumption) | (apply btrans; rotate_left; assumption)) | exact Below.refl _ _ | assumption | (apply btrans0; rotate_left; assumption) | (apply btrans; rotate_left; assumption) | (simp; done) | omega | (simp; omega)))
  go_wp2_with fail
  refine (awake_any _).mono ?_
  rintro e w99 ⟨rfl, hb99⟩
  go_wp2
  go_ret
  exact ⟨rfl, (by repeat' (first | with_reducible (first | refine bset ?_ ?_ | exact Below.refl _ _ | assumption | refine bdrewN ?_ _ | refine bdrew ?_ | refine balloc0 ?_ | refine balloc ?_ ?_ | (apply btrans0; rotate_left; assumption) | (apply btrans; rotate_left; assumption)) | exact Below.refl _ _ | assumption | (apply btrans0; rotate_left; assumption) | (apply btrans; rotate_left; assumption) | (simp; done) | omega | (simp; omega)))⟩
set_option maxRecDepth 100000 in
set_option maxHeartbeats 16000000 in
theorem way2 (l : List Int) (v : Value) (most : Int) (w : World) (hr : RInts w w.heap.size v l) (d1 : decide ((l.length : Int) > 40) = true) (d2 : decide ((l.length : Int) ≤ 1000) = false) (d3 : decide ((l.length : Int) > 1005) = false) :
    Calls Try.prog 4 #[v, .int .i64 most] w (Says w) := by
  obtain ⟨⟨gs, E⟩, hs⟩ : ∃ q, packS l most = q := ⟨_, rfl⟩
  have HS := Lib.hid hs
  clear hs
  obtain ⟨a, c, rfl, _⟩ := id hr
  have HR := Lib.hid hr
  clear hr
  have dE : (E == E) = true := by simp
  go_enter Try.func4, Try.ntmps4
  go_wp2_with fail
  refine (pack_any l _ most _ (HR.out.upto (by repeat' (first | with_reducible (first | refine bset ?_ ?_ | exact Below.refl _ _ | assumption | refine bdrewN ?_ _ | refine bdrew ?_ | refine balloc0 ?_ | refine balloc ?_ ?_ | (apply btrans0; rotate_left; assumption) | (apply btrans; rotate_left; assumption)) | exact Below.refl _ _ | assumption | (apply btrans0; rotate_left; assumption) | (apply btrans; rotate_left; assumption) | (simp; done) | omega | (simp; omega))))).mono ?_
  unfold PackPost
  rw [HS.out]
  rintro e w1 ⟨r, rfl, hb1, hg1⟩
  simp only at hg1
  obtain ⟨ra, rc, rfl⟩ := hg1.len
  have HG1 := Lib.hid hg1
  have hB1 : Below w.heap.size w w1 := (by repeat' (first | with_reducible (first | refine bset ?_ ?_ | exact Below.refl _ _ | assumption | refine bdrewN ?_ _ | refine bdrew ?_ | refine balloc0 ?_ | refine balloc ?_ ?_ | (apply btrans0; rotate_left; assumption) | (apply btrans; rotate_left; assumption)) | exact Below.refl _ _ | assumption | (apply btrans0; rotate_left; assumption) | (apply btrans; rotate_left; assumption) | (simp; done) | omega | (simp; omega)))
  clear hg1
  go_wp2_with fail
  refine (rpack_any l _ most _ (HR.out.upto (by repeat' (first | with_reducible (first | refine bset ?_ ?_ | exact Below.refl _ _ | assumption | refine bdrewN ?_ _ | refine bdrew ?_ | refine balloc0 ?_ | refine balloc ?_ ?_ | (apply btrans0; rotate_left; assumption) | (apply btrans; rotate_left; assumption)) | exact Below.refl _ _ | assumption | (apply btrans0; rotate_left; assumption) | (apply btrans; rotate_left; assumption) | (simp; done) | omega | (simp; omega))))).mono ?_
  unfold PackPost
  rw [HS.out]
  rintro e w2 ⟨r, rfl, hb2, hg2⟩
  simp only at hg2
  obtain ⟨rb, rd, rfl⟩ := hg2.len
  have HG2 := Lib.hid hg2
  have HLN := Lib.hid hg2.small
  have hB2 : Below w.heap.size w w2 := (by repeat' (first | with_reducible (first | refine bset ?_ ?_ | exact Below.refl _ _ | assumption | refine bdrewN ?_ _ | refine bdrew ?_ | refine balloc0 ?_ | refine balloc ?_ ?_ | (apply btrans0; rotate_left; assumption) | (apply btrans; rotate_left; assumption)) | exact Below.refl _ _ | assumption | (apply btrans0; rotate_left; assumption) | (apply btrans; rotate_left; assumption) | (simp; done) | omega | (simp; omega)))
  clear hg2
  go_wp2_with fail
  refine (sameGroups_any gs _ _ _ _ _ (HG1.out.step (by repeat' (first | with_reducible (first | refine bset ?_ ?_ | exact Below.refl _ _ | assumption | refine bdrewN ?_ _ | refine bdrew ?_ | refine balloc0 ?_ | refine balloc ?_ ?_ | (apply btrans0; rotate_left; assumption) | (apply btrans; rotate_left; assumption)) | exact Below.refl _ _ | assumption | (apply btrans0; rotate_left; assumption) | (apply btrans; rotate_left; assumption) | (simp; done) | omega | (simp; omega)))) (HG2.out.step (by repeat' (first | with_reducible (first | refine bset ?_ ?_ | exact Below.refl _ _ | assumption | refine bdrewN ?_ _ | refine bdrew ?_ | refine balloc0 ?_ | refine balloc ?_ ?_ | (apply btrans0; rotate_left; assumption) | (apply btrans; rotate_left; assumption)) | exact Below.refl _ _ | assumption | (apply btrans0; rotate_left; assumption) | (apply btrans; rotate_left; assumption) | (simp; done) | omega | (simp; omega)))) HLN.out).mono ?_
  rintro e w3 ⟨rfl, hb3⟩
  have hB3 : Below w.heap.size w w3 := (by repeat' (first | with_reducible (first | refine bset ?_ ?_ | exact Below.refl _ _ | assumption | refine bdrewN ?_ _ | refine bdrew ?_ | refine balloc0 ?_ | refine balloc ?_ ?_ | (apply btrans0; rotate_left; assumption) | (apply btrans; rotate_left; assumption)) | exact Below.refl _ _ | assumption | (apply btrans0; rotate_left; assumption) | (apply btrans; rotate_left; assumption) | (simp; done) | omega | (simp; omega)))
  go_wp2_with fail
  refine (awake_any _).mono ?_
  rintro e w99 ⟨rfl, hb99⟩
  go_wp2
  go_ret
  exact ⟨rfl, (by repeat' (first | with_reducible (first | refine bset ?_ ?_ | exact Below.refl _ _ | assumption | refine bdrewN ?_ _ | refine bdrew ?_ | refine balloc0 ?_ | refine balloc ?_ ?_ | (apply btrans0; rotate_left; assumption) | (apply btrans; rotate_left; assumption)) | exact Below.refl _ _ | assumption | (apply btrans0; rotate_left; assumption) | (apply btrans; rotate_left; assumption) | (simp; done) | omega | (simp; omega)))⟩
set_option maxRecDepth 100000 in
set_option maxHeartbeats 16000000 in
theorem way3 (l : List Int) (v : Value) (most : Int) (w : World) (hr : RInts w w.heap.size v l) (d1 : decide ((l.length : Int) > 40) = true) (d2 : decide ((l.length : Int) ≤ 1000) = true) :
    Calls Try.prog 4 #[v, .int .i64 most] w (Says w) := by
  obtain ⟨a, c, rfl, _⟩ := id hr
  clear hr
  go_enter Try.func4, Try.ntmps4
  go_wp2_with fail
  refine (awake_any _).mono ?_
  rintro e w99 ⟨rfl, hb99⟩
  go_wp2
  go_ret
  exact ⟨rfl, (by repeat' (first | with_reducible (first | refine bset ?_ ?_ | exact Below.refl _ _ | assumption | refine bdrewN ?_ _ | refine bdrew ?_ | refine balloc0 ?_ | refine balloc ?_ ?_ | (apply btrans0; rotate_left; assumption) | (apply btrans; rotate_left; assumption)) | exact Below.refl _ _ | assumption | (apply btrans0; rotate_left; assumption) | (apply btrans; rotate_left; assumption) | (simp; done) | omega | (simp; omega)))⟩
set_option maxRecDepth 100000 in
set_option maxHeartbeats 16000000 in
theorem way4 (l : List Int) (v : Value) (most : Int) (w : World) (hr : RInts w w.heap.size v l) (d1 : decide ((l.length : Int) > 40) = true) (d2 : decide ((l.length : Int) ≤ 1000) = false) (d3 : decide ((l.length : Int) > 1005) = true) :
    Calls Try.prog 4 #[v, .int .i64 most] w (Says w) := by
  obtain ⟨a, c, rfl, _⟩ := id hr
  clear hr
  go_enter Try.func4, Try.ntmps4
  go_wp2_with fail
  refine (awake_any _).mono ?_
  rintro e w99 ⟨rfl, hb99⟩
  go_wp2
  go_ret
  exact ⟨rfl, (by repeat' (first | with_reducible (first | refine bset ?_ ?_ | exact Below.refl _ _ | assumption | refine bdrewN ?_ _ | refine bdrew ?_ | refine balloc0 ?_ | refine balloc ?_ ?_ | (apply btrans0; rotate_left; assumption) | (apply btrans; rotate_left; assumption)) | exact Below.refl _ _ | assumption | (apply btrans0; rotate_left; assumption) | (apply btrans; rotate_left; assumption) | (simp; done) | omega | (simp; omega)))⟩
theorem walk (l : List Int) (v : Value) (most : Int) (w : World) (hr : RInts w w.heap.size v l)  :
    Calls Try.prog 4 #[v, .int .i64 most] w (Says w) := by
  by_cases h1 : (l.length : Int) > 40
  · by_cases h2 : (l.length : Int) ≤ 1000
    · exact way3 l v most w hr (decide_eq_true h1) (decide_eq_true h2)
    · by_cases h3 : (l.length : Int) > 1005
      · exact way4 l v most w hr (decide_eq_true h1) (decide_eq_false h2) (decide_eq_true h3)
      · exact way2 l v most w hr (decide_eq_true h1) (decide_eq_false h2) (decide_eq_false h3)
  · exact way1 l v most w hr (decide_eq_false h1) (decide_eq_false (by omega))

set_option maxRecDepth 100000 in
theorem lifted (os : Os) (started : os.Started) (H : Type) (enc : TypeId × Value → H) :
    ReturnsInHanded {} Try.checked os 4 .any (Rows.aggregatePackSpec.pre6 enc Try.prog Try.f4 Rows.aggregatePackRow.domain false) (Rows.aggregatePackSpec.post enc Try.prog Try.f4 false true false false) := by
  refine returnsInHanded_of_change (C := Try.checked) own started (by kernel_rfl) Try.func4
    (ChangeSpec.witness6 (enc := enc) (C := Try.checked) false ⟨#[], #[.slice none 0 0, .int .i64 0], []⟩ 8 (by kernel_rfl) (by kernel_rfl) (by kernel_rfl) (by kernel_rfl)) ?_
  intro W base args ds gs before hval0 hW hcnd _
  have hval : ∀ (j : Nat) t v, Try.f4.params[j]? = some t → args[j]? = some v → Value.okWide Try.prog W .any base t v := hval0
  have hW' := hW
  obtain ⟨p, q, hA0, hV, rfl, hfz, hnd⟩ := hW
  have hA : DataW.TrodAll enc Try.prog W 0 (fun _ => true) true Try.f4.params.toList args.toList ds p := hA0
  rw [Try.params4] at hA hval
  obtain ⟨v0, vs0, d0, ds0, p0, q0, hargs, rfl, rfl, h0, r0⟩ := trodAll_cons hA
  obtain ⟨v1, vs1, d1, ds1, p1, q1, rfl, rfl, rfl, h1, r1⟩ := trodAll_cons r0
  obtain ⟨rfl, rfl, rfl⟩ := trodAll_nil r1
  obtain rfl : args = #[v0, v1] := by cases args; simp_all
  obtain ⟨x0, hr0⟩ := open_ints_arg (hval 0 36 v0 rfl rfl) h0
  obtain ⟨x1, rfl, _, _, wx1⟩ := open_int Try.underlying3 (hval 1 3 v1 rfl rfl) h1
  refine (walk x0 v0 x1 W hr0).mono fun e W' ⟨he, hB⟩ => ?_
  subst he
  refine ⟨_, rfl, law_post (by kernel_rfl) (by kernel_rfl) rfl Try.underlying4 rfl ?_ hW' hB⟩
  intro es hes
  match es, hes with
  | [_, _], _ => rfl

theorem proved : Rows.AggregatePackSaid :=
  OpenClaim.holds_of_wide 4 Try.f4 rfl rfl rfl rfl rfl rfl rfl ⟨rfl, rfl, rfl, rfl, rfl⟩ rfl rfl rfl rfl rfl (by kernel_rfl) Try.func4 (by kernel_rfl)
    (of_decide_eq_true (by kernel_rfl)) (by unfold Func.isWrapper; first | (rw [if_pos (by decide +kernel)]; kernel_rfl) | (rw [if_neg (by decide +kernel)]; exact ⟨rfl, rfl⟩))
    (fun os started H enc _ => lifted os started H enc)
#print axioms proved
end Go.Proofs.Ytpkklmkeflddkaa.aggregatePack
