/-
  Proved: mailboatlaw19.AggregateJoin returns true for every input, and leaves its arguments as they were. No condition.
-/
import Derived.Test.YtpkklmkeflddkaaGreatRows
import Derived.Test.YtpkklmkeflddkaaGreatJa
import Derived.Test.YtpkklmkeflddkaaGreatJn
import Derived.Test.YtpkklmkeflddkaaGreatQw
import Derived.Test.YtpkklmkeflddkaaGreatRd
import Derived.Test.YtpkklmkeflddkaaGreatRm
import Derived.Test.YtpkklmkeflddkaaGreatQu
set_option linter.unusedVariables false
set_option linter.unusedSimpArgs false
namespace Go.Proofs.YtpkklmkeflddkaaGreat.aggregateJoin
open Go Go.ChangeShapes Go.WideShapes Go.ChangeAt Go.RowKit Go.Joins Go.Proofs.YtpkklmkeflddkaaGreat
attribute [local go_sem] B_getElem B_size B_app B_extract B_get B_toList

theorem own : ownKnob Tryz.prog.godebug = none := by kernel_rfl

attribute [local go_sem] Oper.semAt_some
attribute [local go_sem ↓] neEndI
attribute [local go_sem] bunC
theorem _root_.Go.Proofs.YtpkklmkeflddkaaGreat.OwnG.mono {w : World} {B B' : Nat} {v : Value} {gs : List (List Int)} (h : OwnG w B' v gs) (hb : B ≤ B') : OwnG w B v gs := by
  obtain ⟨vals, h⟩ := h
  exact ⟨vals, h.le hb⟩
theorem small3 {w : World} {B : Nat} {v : Value} {gs : List (List Int)} (h : OwnG w B v gs) : gs.length ≤ 9223372036854775807 := by
  obtain ⟨vals, h, _⟩ := h
  rcases h.2 with ⟨_, h0⟩ | ⟨g, cap, cur, _, _, _, h1, h2, _⟩
  · omega
  · unfold maxLen at h2; omega
set_option maxRecDepth 100000 in
set_option maxHeartbeats 16000000 in
theorem walk (l : List Bun) (v : Value) (seq most : Int) (w : World) (hr : RBuns w w.heap.size v l) (hf : ∀ x ∈ l, Fits x) :
    Calls Tryz.prog 3 #[v, .int .i64 seq, .int .i64 most] w (Says w) := by
  obtain ⟨a, c, rfl, _⟩ := id hr
  have HR := Lib.hid hr
  have HF := Lib.hid hf
  obtain ⟨⟨b, E⟩, hj⟩ : ∃ q, joinS l seq = q := ⟨_, rfl⟩
  have HJ := Lib.hid hj
  obtain ⟨⟨gs, EG⟩, hg⟩ : ∃ q, grS l most = q := ⟨_, rfl⟩
  have HG := Lib.hid hg
  have HBK : Hid (b.blocks = []) := Lib.hid (by
    have h : (joinS l seq).1.blocks = [] := by unfold joinS; (repeat' split) <;> rfl
    rw [hj] at h; exact h)
  have dE : (E == E) = true := by simp
  have dG : (EG == EG) = true := by simp
  clear hr hf hj hg
  go_enter Tryz.func3, Tryz.ntmps3
  go_wp2_with fail
  refine (greatAll_any l _ _ (HR.out.below'' (by repeat' (first | with_reducible (first | refine bset ?_ ?_ | exact Below.refl _ _ | assumption | refine bdrewN ?_ _ | refine bdrew ?_ | refine balloc0 ?_ | refine balloc ?_ ?_ | (apply btrans0; rotate_left; assumption) | (apply btrans; rotate_left; assumption)) | exact Below.refl _ _ | assumption | (apply btrans0; rotate_left; assumption) | (apply btrans; rotate_left; assumption) | (simp; done) | omega | (simp; omega)))) HF.out).mono ?_
  rintro e w1 ⟨g, rfl, hb1, hg1⟩
  cases g
  case true =>
    go_wp2_with fail
    refine (awake_any _).mono ?_
    rintro e w99 ⟨rfl, hb99⟩
    go_wp2
    go_ret
    exact ⟨rfl, (by repeat' (first | with_reducible (first | refine bset ?_ ?_ | exact Below.refl _ _ | assumption | refine bdrewN ?_ _ | refine bdrew ?_ | refine balloc0 ?_ | refine balloc ?_ ?_ | (apply btrans0; rotate_left; assumption) | (apply btrans; rotate_left; assumption)) | exact Below.refl _ _ | assumption | (apply btrans0; rotate_left; assumption) | (apply btrans; rotate_left; assumption) | (simp; done) | omega | (simp; omega)))⟩
  have hl : l.length ≤ 20000 := by have := hg1 rfl; omega
  have hB1 : Below w.heap.size w w1 := (by repeat' (first | with_reducible (first | refine bset ?_ ?_ | exact Below.refl _ _ | assumption | refine bdrewN ?_ _ | refine bdrew ?_ | refine balloc0 ?_ | refine balloc ?_ ?_ | (apply btrans0; rotate_left; assumption) | (apply btrans; rotate_left; assumption)) | exact Below.refl _ _ | assumption | (apply btrans0; rotate_left; assumption) | (apply btrans; rotate_left; assumption) | (simp; done) | omega | (simp; omega)))
  clear hg1
  go_wp2_with fail
  refine (join_any l _ seq _ (HR.out.below'' (by repeat' (first | with_reducible (first | refine bset ?_ ?_ | exact Below.refl _ _ | assumption | refine bdrewN ?_ _ | refine bdrew ?_ | refine balloc0 ?_ | refine balloc ?_ ?_ | (apply btrans0; rotate_left; assumption) | (apply btrans; rotate_left; assumption)) | exact Below.refl _ _ | assumption | (apply btrans0; rotate_left; assumption) | (apply btrans; rotate_left; assumption) | (simp; done) | omega | (simp; omega)))) HF.out hl).mono ?_
  unfold JoinPost
  rw [HJ.out]
  rintro e w2 ⟨rfl, hb2⟩
  simp only [bunC]
  have hB2 : Below w.heap.size w w2 := (by repeat' (first | with_reducible (first | refine bset ?_ ?_ | exact Below.refl _ _ | assumption | refine bdrewN ?_ _ | refine bdrew ?_ | refine balloc0 ?_ | refine balloc ?_ ?_ | (apply btrans0; rotate_left; assumption) | (apply btrans; rotate_left; assumption)) | exact Below.refl _ _ | assumption | (apply btrans0; rotate_left; assumption) | (apply btrans; rotate_left; assumption) | (simp; done) | omega | (simp; omega)))
  clear hb1 hb2 hB1
  go_wp2_with fail
  refine (rjoin_any l _ seq _ (HR.out.below'' (by repeat' (first | with_reducible (first | refine bset ?_ ?_ | exact Below.refl _ _ | assumption | refine bdrewN ?_ _ | refine bdrew ?_ | refine balloc0 ?_ | refine balloc ?_ ?_ | (apply btrans0; rotate_left; assumption) | (apply btrans; rotate_left; assumption)) | exact Below.refl _ _ | assumption | (apply btrans0; rotate_left; assumption) | (apply btrans; rotate_left; assumption) | (simp; done) | omega | (simp; omega)))) HF.out hl).mono ?_
  unfold JoinPost
  rw [HJ.out]
  rintro e w3 ⟨rfl, hb3⟩
  simp only [bunC]
  have hB3 : Below w.heap.size w w3 := btrans0 (balloc0 hB2) hb3
  have A3 : w3.heap[w2.heap.size]? = some (.cells (bunC b (.slice none 0 0)).toArray 31 (0, 0)) := (hb3.block _ (by simp)).trans heap_new
  have hs3 : w2.heap.size < w3.heap.size := by have := hb3.size; simp at this; omega
  clear hb3
  go_wp2_with fail
  refine (groups_any l _ most _ (HR.out.below'' (by repeat' (first | with_reducible (first | refine bset ?_ ?_ | exact Below.refl _ _ | assumption | refine bdrewN ?_ _ | refine bdrew ?_ | refine balloc0 ?_ | refine balloc ?_ ?_ | (apply btrans0; rotate_left; assumption) | (apply btrans; rotate_left; assumption)) | exact Below.refl _ _ | assumption | (apply btrans0; rotate_left; assumption) | (apply btrans; rotate_left; assumption) | (simp; done) | omega | (simp; omega)))) HF.out).mono ?_
  unfold GroupsPost
  rw [HG.out]
  rintro e w4 ⟨r, rfl, hb4, hg4⟩
  simp only at hg4
  obtain ⟨ra4, rc4, rfl⟩ := hg4.len
  have HG4 := Lib.hid (hg4.mono (Nat.zero_le _))
  have hB4 : Below w.heap.size w w4 := (by repeat' (first | with_reducible (first | refine bset ?_ ?_ | exact Below.refl _ _ | assumption | refine bdrewN ?_ _ | refine bdrew ?_ | refine balloc0 ?_ | refine balloc ?_ ?_ | (apply btrans0; rotate_left; assumption) | (apply btrans; rotate_left; assumption)) | exact Below.refl _ _ | assumption | (apply btrans0; rotate_left; assumption) | (apply btrans; rotate_left; assumption) | (simp; done) | omega | (simp; omega)))
  have A4 : w4.heap[w2.heap.size]? = some (.cells (bunC b (.slice none 0 0)).toArray 31 (0, 0)) := (hb4.block _ (by first | omega | (simp; omega))).trans ((Below.heap_alloc _ _ _ (by omega)).trans A3)
  have B4 : w4.heap[w3.heap.size]? = some (.cells (bunC b (.slice none 0 0)).toArray 31 (0, 0)) := (hb4.block _ (by first | (simp; done) | omega | (simp; omega))).trans heap_new
  have hs4 : w3.heap.size < w4.heap.size := by have := hb4.size; (try simp at this); omega
  clear hg4 hb4
  go_wp2_with fail
  refine (rgroups_any l _ most _ (HR.out.below'' (by repeat' (first | with_reducible (first | refine bset ?_ ?_ | exact Below.refl _ _ | assumption | refine bdrewN ?_ _ | refine bdrew ?_ | refine balloc0 ?_ | refine balloc ?_ ?_ | (apply btrans0; rotate_left; assumption) | (apply btrans; rotate_left; assumption)) | exact Below.refl _ _ | assumption | (apply btrans0; rotate_left; assumption) | (apply btrans; rotate_left; assumption) | (simp; done) | omega | (simp; omega)))) HF.out).mono ?_
  unfold GroupsPost
  rw [HG.out]
  rintro e w5 ⟨r, rfl, hb5, hg5⟩
  simp only at hg5
  obtain ⟨ra5, rc5, rfl⟩ := hg5.len
  have HG5 := Lib.hid (hg5.mono (Nat.zero_le _))
  have hB5 : Below w.heap.size w w5 := (by repeat' (first | with_reducible (first | refine bset ?_ ?_ | exact Below.refl _ _ | assumption | refine bdrewN ?_ _ | refine bdrew ?_ | refine balloc0 ?_ | refine balloc ?_ ?_ | (apply btrans0; rotate_left; assumption) | (apply btrans; rotate_left; assumption)) | exact Below.refl _ _ | assumption | (apply btrans0; rotate_left; assumption) | (apply btrans; rotate_left; assumption) | (simp; done) | omega | (simp; omega)))
  have A5 : w5.heap[w2.heap.size]? = some (.cells (bunC b (.slice none 0 0)).toArray 31 (0, 0)) := (hb5.block _ (by first | omega | (simp; omega))).trans A4
  have B5 : w5.heap[w3.heap.size]? = some (.cells (bunC b (.slice none 0 0)).toArray 31 (0, 0)) := (hb5.block _ (by first | (simp; done) | omega | (simp; omega))).trans B4
  have K45 : Below w4.heap.size w4 w5 := hb5
  have hs5 : w3.heap.size < w5.heap.size := by have := hb5.size; (try simp at this); omega
  clear hg5 hb5
  have ca := fun o => cellB A5 o
  have cb := fun o => cellB B5 o
  simp only [bunC] at ca cb
  have zca : w2.heap.size < w5.heap.size := by (try simp at hs4); omega
  have zcb : w3.heap.size < w5.heap.size := by (try simp at hs4); omega
  clear A3 A4 A5 B4 B5 hs4 hs5
  go_wp2_with fail
  refine (bsame_any b _ _ _ (by rw [HBK.out]; exact RBlks.nil _ _) (by rw [HBK.out]; exact RBlks.nil _ _)).mono ?_
  rintro e w6 ⟨rfl, hb6⟩
  have hB6 : Below w.heap.size w w6 := (by repeat' (first | with_reducible (first | refine bset ?_ ?_ | exact Below.refl _ _ | assumption | refine bdrewN ?_ _ | refine bdrew ?_ | refine balloc0 ?_ | refine balloc ?_ ?_ | (apply btrans0; rotate_left; assumption) | (apply btrans; rotate_left; assumption)) | exact Below.refl _ _ | assumption | (apply btrans0; rotate_left; assumption) | (apply btrans; rotate_left; assumption) | (simp; done) | omega | (simp; omega)))
  go_wp2_with fail
  refine (sameGroups_any gs 0 0 _ _ _ ((HG4.out.step K45).step hb6) (HG5.out.step hb6) (small3 HG5.out)).mono ?_
  rintro e w7 ⟨rfl, hb7⟩
  have hB7 : Below w.heap.size w w7 := (by repeat' (first | with_reducible (first | refine bset ?_ ?_ | exact Below.refl _ _ | assumption | refine bdrewN ?_ _ | refine bdrew ?_ | refine balloc0 ?_ | refine balloc ?_ ?_ | (apply btrans0; rotate_left; assumption) | (apply btrans; rotate_left; assumption)) | exact Below.refl _ _ | assumption | (apply btrans0; rotate_left; assumption) | (apply btrans; rotate_left; assumption) | (simp; done) | omega | (simp; omega)))
  go_wp2_with fail
  refine (awake_any _).mono ?_
  rintro e w99 ⟨rfl, hb99⟩
  go_wp2
  go_ret
  exact ⟨rfl, (by repeat' (first | with_reducible (first | refine bset ?_ ?_ | exact Below.refl _ _ | assumption | refine bdrewN ?_ _ | refine bdrew ?_ | refine balloc0 ?_ | refine balloc ?_ ?_ | (apply btrans0; rotate_left; assumption) | (apply btrans; rotate_left; assumption)) | exact Below.refl _ _ | assumption | (apply btrans0; rotate_left; assumption) | (apply btrans; rotate_left; assumption) | (simp; done) | omega | (simp; omega)))⟩

set_option maxRecDepth 100000 in
theorem lifted (os : Os) (started : os.Started) (H : Type) (enc : TypeId × Value → H) :
    ReturnsInHanded {} Tryz.checked os 3 .any (Rows.aggregateJoinSpec.pre6 enc Tryz.prog Tryz.f3 Rows.aggregateJoinRow.domain false) (Rows.aggregateJoinSpec.post enc Tryz.prog Tryz.f3 false true false false) := by
  refine returnsInHanded_of_change (C := Tryz.checked) own started (by kernel_rfl) Tryz.func3
    (ChangeSpec.witness6 (enc := enc) (C := Tryz.checked) false ⟨#[], #[.slice none 0 0, .int .i64 0, .int .i64 0], []⟩ 8 (by kernel_rfl) (by kernel_rfl) (by kernel_rfl) (by kernel_rfl)) ?_
  intro W base args ds gs before hval0 hW hcnd _
  have hval : ∀ (j : Nat) t v, Tryz.f3.params[j]? = some t → args[j]? = some v → Value.okWide Tryz.prog W .any base t v := hval0
  have hW' := hW
  obtain ⟨p, q, hA0, hV, rfl, hfz, hnd⟩ := hW
  have hA : DataW.TrodAll enc Tryz.prog W 0 (fun _ => true) true Tryz.f3.params.toList args.toList ds p := hA0
  rw [Tryz.params3] at hA hval
  obtain ⟨v0, vs0, d0, ds0, p0, q0, hargs, rfl, rfl, h0, r0⟩ := trodAll_cons hA
  obtain ⟨v1, vs1, d1, ds1, p1, q1, rfl, rfl, rfl, h1, r1⟩ := trodAll_cons r0
  obtain ⟨v2, vs2, d2, ds2, p2, q2, rfl, rfl, rfl, h2, r2⟩ := trodAll_cons r1
  obtain ⟨rfl, rfl, rfl⟩ := trodAll_nil r2
  obtain rfl : args = #[v0, v1, v2] := by cases args; simp_all
  obtain ⟨x0, hr0, hf0⟩ := open_buns_arg (hval 0 22 v0 rfl rfl) h0
  obtain ⟨x1, rfl, _, _, wx1⟩ := open_int Tryz.underlying3 (hval 1 3 v1 rfl rfl) h1
  obtain ⟨x2, rfl, _, _, wx2⟩ := open_int Tryz.underlying3 (hval 2 3 v2 rfl rfl) h2
  refine (walk x0 v0 x1 x2 W hr0 hf0).mono fun e W' ⟨he, hB⟩ => ?_
  subst he
  refine ⟨_, rfl, law_post (by kernel_rfl) (by kernel_rfl) rfl Tryz.underlying4 rfl ?_ hW' hB⟩
  intro es hes
  match es, hes with
  | [_, _, _], _ => rfl

theorem proved : Rows.AggregateJoinSaid :=
  OpenClaim.holds_of_wide 3 Tryz.f3 rfl rfl rfl rfl rfl rfl rfl ⟨rfl, rfl, rfl, rfl, rfl⟩ rfl rfl rfl rfl rfl (by kernel_rfl) Tryz.func3 (by kernel_rfl)
    (of_decide_eq_true (by kernel_rfl)) (by unfold Func.isWrapper; first | (rw [if_pos (by decide +kernel)]; kernel_rfl) | (rw [if_neg (by decide +kernel)]; exact ⟨rfl, rfl⟩))
    (fun os started H enc _ => lifted os started H enc)
#print axioms proved
end Go.Proofs.YtpkklmkeflddkaaGreat.aggregateJoin
