/-
  Proved: mailboatlaw17.FragmentSplit returns true for every input, and leaves its arguments as they were. No condition.
-/
import Derived.Test.YtibfchdhppdccaaRows
import Derived.Test.YtibfchdhppdccaaGo
import Derived.Test.YtibfchdhppdccaaFn
import Derived.Test.YtibfchdhppdccaaR
import Derived.Test.YtibfchdhppdccaaL
set_option linter.unusedVariables false
set_option linter.unusedSimpArgs false
namespace Go.Proofs.Ytibfchdhppdccaa.fragmentSplit
open Go Go.ChangeShapes Go.WideShapes Go.ChangeAt Go.RowKit Go.Joins Go.Proofs.Ytibfchdhppdccaa
attribute [local go_sem] B_getElem B_size B_app B_extract B_get B_toList
attribute [local go_sem] bunC
attribute [local go_sem ↓] eqBlk eqId eqEnd

theorem own : ownKnob Try.prog.godebug = none := by kernel_rfl

set_option maxRecDepth 100000 in
set_option maxHeartbeats 1600000 in
theorem walk (b : Bun) (u : Value) (n : Int) (w : World) (h : RBlks w w.heap.size u b.blocks) (hf : Fits b) :
    Calls Try.prog 3 #[.agg (bunC b u).toArray, .int .i64 n] w (Says w) := by
  obtain ⟨⟨l, E⟩, hl⟩ : ∃ x, splitR b n = x := ⟨_, rfl⟩
  obtain ⟨⟨m, F⟩, hm⟩ : ∃ x, piecesR b n = x := ⟨_, rfl⟩
  have HL := Lib.hid hl
  have HM := Lib.hid hm
  clear hl hm
  obtain ⟨ua, uc, rfl, _⟩ := id h
  have HR := Lib.hid h
  have HF := Lib.hid hf
  clear h hf
  go_enter Try.func3, Try.ntmps3
  simp only [bunC]
  go_wp2_with fail
  refine (lawGreat_any b _ _ (HR.out.below (C := w.heap.size) (by repeat' (first | (with_reducible refine bset ?_ ?_) | (with_reducible exact Below.refl _ _) | (with_reducible assumption) | (with_reducible refine bdrewN ?_ _) | (with_reducible refine bdrew ?_) | (with_reducible refine balloc0 ?_) | (with_reducible refine balloc ?_ ?_) | (with_reducible apply btrans0; rotate_left; with_reducible assumption) | (with_reducible apply btrans; rotate_left; with_reducible assumption) | exact Below.refl _ _ | assumption | (apply btrans0; rotate_left; assumption) | (apply btrans; rotate_left; assumption) | (simp; done) | omega | (simp; omega))) (Nat.le_refl _) (by simp)) HF.out).mono ?_
  rintro e w1 ⟨g, rfl, hb1⟩
  obtain ⟨k1, f1⟩ := bcell hb1
  have z1 : w.heap.size < w1.heap.size := by have := hb1.size; simp at this; omega
  cases g
  case true =>
    go_wp2_with fail
    refine (awake_any _).mono ?_
    rintro e w2 ⟨rfl, hb2⟩
    go_wp2
    go_ret
    exact ⟨rfl, (by repeat' (first | (with_reducible refine bset ?_ ?_) | (with_reducible exact Below.refl _ _) | (with_reducible assumption) | (with_reducible refine bdrewN ?_ _) | (with_reducible refine bdrew ?_) | (with_reducible refine balloc0 ?_) | (with_reducible refine balloc ?_ ?_) | (with_reducible apply btrans0; rotate_left; with_reducible assumption) | (with_reducible apply btrans; rotate_left; with_reducible assumption) | exact Below.refl _ _ | assumption | (apply btrans0; rotate_left; assumption) | (apply btrans; rotate_left; assumption) | (simp; done) | omega | (simp; omega)))⟩
  have hB1 : Below w.heap.size w w1 := (by repeat' (first | (with_reducible refine bset ?_ ?_) | (with_reducible exact Below.refl _ _) | (with_reducible assumption) | (with_reducible refine bdrewN ?_ _) | (with_reducible refine bdrew ?_) | (with_reducible refine balloc0 ?_) | (with_reducible refine balloc ?_ ?_) | (with_reducible apply btrans0; rotate_left; with_reducible assumption) | (with_reducible apply btrans; rotate_left; with_reducible assumption) | exact Below.refl _ _ | assumption | (apply btrans0; rotate_left; assumption) | (apply btrans; rotate_left; assumption) | (simp; done) | omega | (simp; omega)))
  have G1 : w1.heap[w.heap.size]? = some (.cells (bunC b (.slice ua b.blocks.length uc)).toArray 28 (0, 0)) := (hb1.block _ (by simp)).trans heap_new
  clear k1 f1
  have ca := fun o => cellB G1 o
  simp only [bunC] at ca
  go_wp2_with fail
  clear ca
  refine (split_any b _ n w.heap.size _ (by omega) (HR.out.below (C := w.heap.size) hB1 (Nat.le_refl _) (Nat.le_refl _)) HF.out).mono ?_
  rw [HL.out]
  rintro e w2 ⟨v2, rfl, r2, hb2⟩
  obtain ⟨a2, c2, rfl, _⟩ := id r2
  have l2 : w1.heap.size ≤ w2.heap.size := hb2.size
  have z2 : w.heap.size < w2.heap.size := by omega
  have hB2 : Below w.heap.size w w2 := (by repeat' (first | (with_reducible refine bset ?_ ?_) | (with_reducible exact Below.refl _ _) | (with_reducible assumption) | (with_reducible refine bdrewN ?_ _) | (with_reducible refine bdrew ?_) | (with_reducible refine balloc0 ?_) | (with_reducible refine balloc ?_ ?_) | (with_reducible apply btrans0; rotate_left; with_reducible assumption) | (with_reducible apply btrans; rotate_left; with_reducible assumption) | exact Below.refl _ _ | assumption | (apply btrans0; rotate_left; assumption) | (apply btrans; rotate_left; assumption) | (simp; done) | omega | (simp; omega)))
  have G2 := (hb2.block w.heap.size (by omega)).trans G1
  have ca := fun o => cellB G2 o
  simp only [bunC] at ca
  go_wp2_with fail
  clear ca
  refine (rsplit_any b _ n w.heap.size _ (by omega) (HR.out.below (C := w.heap.size) hB2 (Nat.le_refl _) (Nat.le_refl _)) HF.out).mono ?_
  rw [HL.out]
  rintro e w3 ⟨v3, rfl, r3, hb3⟩
  obtain ⟨a3, c3, rfl, _⟩ := id r3
  have l3 : w2.heap.size ≤ w3.heap.size := hb3.size
  have z3 : w.heap.size < w3.heap.size := by omega
  have hB3 : Below w.heap.size w w3 := (by repeat' (first | (with_reducible refine bset ?_ ?_) | (with_reducible exact Below.refl _ _) | (with_reducible assumption) | (with_reducible refine bdrewN ?_ _) | (with_reducible refine bdrew ?_) | (with_reducible refine balloc0 ?_) | (with_reducible refine balloc ?_ ?_) | (with_reducible apply btrans0; rotate_left; with_reducible assumption) | (with_reducible apply btrans; rotate_left; with_reducible assumption) | exact Below.refl _ _ | assumption | (apply btrans0; rotate_left; assumption) | (apply btrans; rotate_left; assumption) | (simp; done) | omega | (simp; omega)))
  have G3 := (hb3.block w.heap.size (by omega)).trans G2
  have ca := fun o => cellB G3 o
  simp only [bunC] at ca
  go_wp2_with fail
  clear ca
  refine (pieces_any b _ n w.heap.size _ (by omega) (HR.out.below (C := w.heap.size) hB3 (Nat.le_refl _) (Nat.le_refl _)) HF.out).mono ?_
  rw [HM.out]
  rintro e w4 ⟨v4, rfl, r4, hb4⟩
  obtain ⟨a4, c4, rfl, _⟩ := id r4
  have l4 : w3.heap.size ≤ w4.heap.size := hb4.size
  have z4 : w.heap.size < w4.heap.size := by omega
  have hB4 : Below w.heap.size w w4 := (by repeat' (first | (with_reducible refine bset ?_ ?_) | (with_reducible exact Below.refl _ _) | (with_reducible assumption) | (with_reducible refine bdrewN ?_ _) | (with_reducible refine bdrew ?_) | (with_reducible refine balloc0 ?_) | (with_reducible refine balloc ?_ ?_) | (with_reducible apply btrans0; rotate_left; with_reducible assumption) | (with_reducible apply btrans; rotate_left; with_reducible assumption) | exact Below.refl _ _ | assumption | (apply btrans0; rotate_left; assumption) | (apply btrans; rotate_left; assumption) | (simp; done) | omega | (simp; omega)))
  have G4 := (hb4.block w.heap.size (by omega)).trans G3
  have ca := fun o => cellB G4 o
  simp only [bunC] at ca
  go_wp2_with fail
  clear ca
  refine (rpieces_any b _ n w.heap.size _ (by omega) (HR.out.below (C := w.heap.size) hB4 (Nat.le_refl _) (Nat.le_refl _)) HF.out).mono ?_
  rw [HM.out]
  rintro e w5 ⟨v5, rfl, r5, hb5⟩
  obtain ⟨a5, c5, rfl, _⟩ := id r5
  have l5 : w4.heap.size ≤ w5.heap.size := hb5.size
  have z5 : w.heap.size < w5.heap.size := by omega
  have hB5 : Below w.heap.size w w5 := (by repeat' (first | (with_reducible refine bset ?_ ?_) | (with_reducible exact Below.refl _ _) | (with_reducible assumption) | (with_reducible refine bdrewN ?_ _) | (with_reducible refine bdrew ?_) | (with_reducible refine balloc0 ?_) | (with_reducible refine balloc ?_ ?_) | (with_reducible apply btrans0; rotate_left; with_reducible assumption) | (with_reducible apply btrans; rotate_left; with_reducible assumption) | exact Below.refl _ _ | assumption | (apply btrans0; rotate_left; assumption) | (apply btrans; rotate_left; assumption) | (simp; done) | omega | (simp; omega)))
  have G5 := (hb5.block w.heap.size (by omega)).trans G4
  have t2 : Below w2.heap.size w2 w5 := by clear hB1 hB2 hB3 hB4 hB5; exact (by repeat' (first | (with_reducible refine bset ?_ ?_) | (with_reducible exact Below.refl _ _) | (with_reducible assumption) | (with_reducible refine bdrewN ?_ _) | (with_reducible refine bdrew ?_) | (with_reducible refine balloc0 ?_) | (with_reducible refine balloc ?_ ?_) | (with_reducible apply btrans0; rotate_left; with_reducible assumption) | (with_reducible apply btrans; rotate_left; with_reducible assumption) | exact Below.refl _ _ | assumption | (apply btrans0; rotate_left; assumption) | (apply btrans; rotate_left; assumption) | (simp; done) | omega | (simp; omega)))
  have s2 := r2.below (w' := w5) (C := w2.heap.size) (M := w5.heap.size) t2 (Nat.le_refl _) (by omega)
  have t3 : Below w3.heap.size w3 w5 := by clear t2 hB1 hB2 hB3 hB4 hB5; exact (by repeat' (first | (with_reducible refine bset ?_ ?_) | (with_reducible exact Below.refl _ _) | (with_reducible assumption) | (with_reducible refine bdrewN ?_ _) | (with_reducible refine bdrew ?_) | (with_reducible refine balloc0 ?_) | (with_reducible refine balloc ?_ ?_) | (with_reducible apply btrans0; rotate_left; with_reducible assumption) | (with_reducible apply btrans; rotate_left; with_reducible assumption) | exact Below.refl _ _ | assumption | (apply btrans0; rotate_left; assumption) | (apply btrans; rotate_left; assumption) | (simp; done) | omega | (simp; omega)))
  have s3 := r3.below (w' := w5) (C := w3.heap.size) (M := w5.heap.size) t3 (Nat.le_refl _) (by omega)
  have t4 : Below w4.heap.size w4 w5 := hb5
  have s4 := r4.below (w' := w5) (C := w4.heap.size) (M := w5.heap.size) t4 (Nat.le_refl _) (by omega)
  have S2 := Lib.hid s2
  have S3 := Lib.hid s3
  have S4 := Lib.hid s4
  have S5 := Lib.hid r5
  clear r2 r3 r4 r5 s2 s3 s4 G1 G2 G3 G4 G5 hb1 hb2 hb3 hb4 hb5 hB1 hB2 hB3 hB4
  go_wp2_with fail
  refine (sameAll_any l _ _ _ S2.out S3.out).mono ?_
  rintro e w6 ⟨rfl, hb6⟩
  have l6 : w5.heap.size ≤ w6.heap.size := hb6.size
  go_wp2_with fail
  refine (sameAll_any m _ _ _ (S4.out.below (C := w5.heap.size) hb6 (Nat.le_refl _) (by omega)) (S5.out.below (C := w5.heap.size) hb6 (Nat.le_refl _) (by omega))).mono ?_
  rintro e w7 ⟨rfl, hb7⟩
  go_wp2_with fail
  refine (awake_any _).mono ?_
  rintro e w8 ⟨rfl, hb8⟩
  go_wp2
  go_ret
  exact ⟨rfl, (by repeat' (first | (with_reducible refine bset ?_ ?_) | (with_reducible exact Below.refl _ _) | (with_reducible assumption) | (with_reducible refine bdrewN ?_ _) | (with_reducible refine bdrew ?_) | (with_reducible refine balloc0 ?_) | (with_reducible refine balloc ?_ ?_) | (with_reducible apply btrans0; rotate_left; with_reducible assumption) | (with_reducible apply btrans; rotate_left; with_reducible assumption) | exact Below.refl _ _ | assumption | (apply btrans0; rotate_left; assumption) | (apply btrans; rotate_left; assumption) | (simp; done) | omega | (simp; omega)))⟩

set_option maxRecDepth 100000 in
theorem lifted (os : Os) (started : os.Started) (H : Type) (enc : TypeId × Value → H) :
    ReturnsInHanded {} Try.checked os 3 .any (Rows.fragmentSplitSpec.pre6 enc Try.prog Try.f3 Rows.fragmentSplitRow.domain false) (Rows.fragmentSplitSpec.post enc Try.prog Try.f3 false true false false) := by
  refine returnsInHanded_of_change (C := Try.checked) own started (by kernel_rfl) Try.func3
    (ChangeSpec.witness6 (enc := enc) (C := Try.checked) false ⟨#[], #[.agg bun0, .int .i64 0], []⟩ 8 (by kernel_rfl) (by kernel_rfl) (by kernel_rfl) (by kernel_rfl)) ?_
  intro W base args ds gs before hval0 hW hcnd _
  have hval : ∀ (j : Nat) t v, Try.f3.params[j]? = some t → args[j]? = some v → Value.okWide Try.prog W .any base t v := hval0
  have hW' := hW
  obtain ⟨p, q, hA0, hV, rfl, hfz, hnd⟩ := hW
  have hA : DataW.TrodAll enc Try.prog W 0 (fun _ => true) true Try.f3.params.toList args.toList ds p := hA0
  rw [Try.params3] at hA hval
  obtain ⟨v0, vs0, d0, ds0, p0, q0, hargs, rfl, rfl, h0, r0⟩ := trodAll_cons hA
  obtain ⟨v1, vs1, d1, ds1, p1, q1, rfl, rfl, rfl, h1, r1⟩ := trodAll_cons r0
  obtain ⟨rfl, rfl, rfl⟩ := trodAll_nil r1
  obtain rfl : args = #[v0, v1] := by cases args; simp_all
  obtain ⟨b, u, rfl, hr, hf⟩ := open_bun (hval 0 28 v0 rfl rfl) h0
  obtain ⟨x1, rfl, _, _, wx1⟩ := open_int Try.underlying3 (hval 1 3 v1 rfl rfl) h1
  refine (walk b u x1 W hr hf).mono fun e W' ⟨he, hB⟩ => ?_
  subst he
  refine ⟨_, rfl, law_post (by kernel_rfl) (by kernel_rfl) rfl Try.underlying4 rfl ?_ hW' hB⟩
  intro es hes
  match es, hes with
  | [_, _], _ => rfl

theorem proved : Rows.FragmentSplitSaid :=
  OpenClaim.holds_of_wide 3 Try.f3 rfl rfl rfl rfl rfl rfl rfl ⟨rfl, rfl, rfl, rfl, rfl⟩ rfl rfl rfl rfl rfl (by kernel_rfl) Try.func3 (by kernel_rfl)
    (of_decide_eq_true (by kernel_rfl)) (by unfold Func.isWrapper; first | (rw [if_pos (by decide +kernel)]; kernel_rfl) | (rw [if_neg (by decide +kernel)]; exact ⟨rfl, rfl⟩))
    (fun os started H enc _ => lifted os started H enc)
#print axioms proved
end Go.Proofs.Ytibfchdhppdccaa.fragmentSplit
