/- Layer 20 (report): Wrap, both sides. -/
import Derived.Test.YtcmkpnjbnjbegaaDoorVm
set_option linter.unusedVariables false
set_option linter.unusedSimpArgs false
namespace Go.Proofs.YtcmkpnjbnjbegaaDoor
open Go Go.RowKit
attribute [local go_sem] B_getElem B_size B_app B_extract B_get B_toList

def wrapE (r : Rep) (seq life : Int) : Int := if repE r ≠ 0 then repE r else if 0 ≤ seq ∧ seq ≤ 1099511627776 ∧ 1 ≤ life ∧ life ≤ 1099511627776 - r.time then 0 else 2
/-- the bundle that carries a record -/
def wrapB (r : Rep) (seq life : Int) : Bun := if wrapE r seq life = 0 then ⟨r.node, r.time, seq, 0, 0, 1, r.src, life, 1, 6, [], repR r⟩ else zBun
theorem wrapB_bad {r : Rep} {seq life : Int} (h : wrapE r seq life ≠ 0) : wrapB r seq life = zBun := if_neg h
theorem wrapB_ok {r : Rep} {seq life : Int} (h : wrapE r seq life = 0) : wrapB r seq life = ⟨r.node, r.time, seq, 0, 0, 1, r.src, life, 1, 6, [], repR r⟩ := if_pos h
theorem wrapE_ok {r : Rep} {seq life : Int} (h : wrapE r seq life = 0) : repE r = 0 ∧ 0 ≤ seq ∧ seq ≤ 1099511627776 ∧ 1 ≤ life ∧ life ≤ 1099511627776 - r.time := by
  unfold wrapE at h
  by_cases k : repE r ≠ 0
  · rw [if_pos k] at h; exact absurd h k
  · rw [if_neg k] at h
    by_cases j : 0 ≤ seq ∧ seq ≤ 1099511627776 ∧ 1 ≤ life ∧ life ≤ 1099511627776 - r.time
    · exact ⟨by simpa using k, j⟩
    · rw [if_neg j] at h; exact absurd h (by decide)
def WrapPost (r : Rep) (seq life : Int) (w : World) (e : Ending) (w' : World) : Prop := e = .returned (.tuple #[.agg (bunC (wrapB r seq life) (.slice none 0 0)).toArray, .int .i64 (wrapE r seq life)]) ∧ Below w.heap.size w w'
set_option maxRecDepth 100000 in
set_option maxHeartbeats 4000000 in
theorem wrap_any (r : Rep) (seq life : Int) (w : World) :
    Calls Tryd.prog 22 #[repV r, .int .i64 seq, .int .i64 life] w (WrapPost r seq life w) := by
  unfold WrapPost
  obtain ⟨E, hE⟩ : ∃ q, repE r = q := ⟨_, rfl⟩
  have HE := Lib.hid hE
  by_cases z : E = 0
  case neg =>
    have z' : (E != 0) = true := by rw [bne_iff_ne]; exact z
    have e1 : wrapE r seq life = E := by unfold wrapE; rw [hE, if_pos z]
    have HR : Hid (repR r = []) := Lib.hid (repR_bad (by rw [hE]; exact z))
    rw [wrapB_bad (by rw [e1]; exact z), e1]
    clear e1 hE z
    simp only [bunC, zBun]
    unfold repV
    go_enter Tryd.func22, Tryd.ntmps22
    go_wp2_with fail
    refine (repEncode_any r _).mono ?_
    rw [HE.out, HR.out]
    rintro e w1 ⟨rfl, hb1⟩
    have z1 : w.heap.size + 1 < w1.heap.size := by have := hb1.size; simp at this; omega
    obtain ⟨k1, f1⟩ := bcell hb1
    go_wp2
    refine bodyPost_ret (v := .tuple #[.agg #[.int .i64 0, .int .i64 0, .int .i64 0, .int .i64 0, .int .i64 0, .int .i64 0, .int .i64 0, .int .i64 0, .int .i64 0, .int .i64 0, .slice none 0 0, .string { data := #[] }], .int .i64 E]) (by simp [results, Tryd.results22, go_sem, World.cell?_setCell_same', k1, z1]) rfl ?_
    exact ⟨rfl, (by repeat' (first | (with_reducible refine bset ?_ ?_) | (with_reducible exact Below.refl _ _) | (with_reducible assumption) | (with_reducible refine bdrewN ?_ _) | (with_reducible refine bdrew ?_) | (with_reducible refine balloc0 ?_) | (with_reducible refine balloc ?_ ?_) | (with_reducible apply btrans0; rotate_left; with_reducible assumption) | (with_reducible apply btrans; rotate_left; with_reducible assumption) | exact Below.refl _ _ | assumption | (apply btrans0; rotate_left; assumption) | (apply btrans; rotate_left; assumption) | (simp; done) | omega | (simp; omega)))⟩
  subst z
  obtain ⟨rk1, rk2, rk3, rk4, rk5, rk6, rk7, -, -, -⟩ := rep_facts hE
  obtain ⟨R, hR⟩ : ∃ q, repR r = q := ⟨_, rfl⟩
  have HR := Lib.hid hR
  obtain ⟨S, hS⟩ : ∃ q, (decide (0 ≤ seq) && decide (seq ≤ 1099511627776)) = q := ⟨_, rfl⟩
  have HS := Lib.hid hS
  obtain ⟨L, hL⟩ : ∃ q, (decide (1 ≤ life) && decide (life ≤ 1099511627776 - r.time)) = q := ⟨_, rfl⟩
  have HL := Lib.hid hL
  have hw : wrapE r seq life = if S = true ∧ L = true then 0 else 2 := by
    unfold wrapE
    rw [hE, if_neg (by simp), ← hS, ← hL]
    simp only [Bool.and_eq_true, decide_eq_true_eq, and_assoc]
  clear rk1 rk2 rk3 rk4 rk5 hS hL
  cases S with
  | false =>
    have e1 : wrapE r seq life = 2 := by rw [hw]; simp
    rw [wrapB_bad (by rw [e1]; decide), e1]
    clear e1 hE hR hw
    simp only [bunC, zBun]
    unfold repV
    go_enter Tryd.func22, Tryd.ntmps22
    go_wp2_with fail
    refine (repEncode_any r _).mono ?_
    rw [HE.out, HR.out]
    rintro e w1 ⟨rfl, hb1⟩
    have z1 : w.heap.size + 1 < w1.heap.size := by have := hb1.size; simp at this; omega
    have z1a : w.heap.size < w1.heap.size := by omega
    obtain ⟨k1, f1⟩ := bcell hb1
    go_wp2_with fail
    refine (pwithin_any seq 0 1099511627776 _).mono ?_
    rw [HS.out]
    rintro e w2 ⟨rfl, rfl⟩
    go_wp2
    refine bodyPost_ret (v := .tuple #[.agg #[.int .i64 0, .int .i64 0, .int .i64 0, .int .i64 0, .int .i64 0, .int .i64 0, .int .i64 0, .int .i64 0, .int .i64 0, .int .i64 0, .slice none 0 0, .string { data := #[] }], .int .i64 2]) (by simp [results, Tryd.results22, go_sem, World.cell?_setCell_same', k1, z1]) rfl ?_
    exact ⟨rfl, (by repeat' (first | (with_reducible refine bset ?_ ?_) | (with_reducible exact Below.refl _ _) | (with_reducible assumption) | (with_reducible refine bdrewN ?_ _) | (with_reducible refine bdrew ?_) | (with_reducible refine balloc0 ?_) | (with_reducible refine balloc ?_ ?_) | (with_reducible apply btrans0; rotate_left; with_reducible assumption) | (with_reducible apply btrans; rotate_left; with_reducible assumption) | exact Below.refl _ _ | assumption | (apply btrans0; rotate_left; assumption) | (apply btrans; rotate_left; assumption) | (simp; done) | omega | (simp; omega)))⟩
  | true =>
    cases L with
    | false =>
      have e1 : wrapE r seq life = 2 := by rw [hw]; simp
      rw [wrapB_bad (by rw [e1]; decide), e1]
      clear e1 hE hR hw
      simp only [bunC, zBun]
      unfold repV
      go_enter Tryd.func22, Tryd.ntmps22
      go_wp2_with fail
      refine (repEncode_any r _).mono ?_
      rw [HE.out, HR.out]
      rintro e w1 ⟨rfl, hb1⟩
      have z1 : w.heap.size + 1 < w1.heap.size := by have := hb1.size; simp at this; omega
      have z1a : w.heap.size < w1.heap.size := by omega
      obtain ⟨k1, f1⟩ := bcell hb1
      go_wp2_with fail
      refine (pwithin_any seq 0 1099511627776 _).mono ?_
      rw [HS.out]
      rintro e w2 ⟨rfl, rfl⟩
      go_wp2_with fail
      refine (pwithin_any life 1 (1099511627776 - r.time) _).mono ?_
      rw [HL.out]
      rintro e w2 ⟨rfl, rfl⟩
      go_wp2
      refine bodyPost_ret (v := .tuple #[.agg #[.int .i64 0, .int .i64 0, .int .i64 0, .int .i64 0, .int .i64 0, .int .i64 0, .int .i64 0, .int .i64 0, .int .i64 0, .int .i64 0, .slice none 0 0, .string { data := #[] }], .int .i64 2]) (by simp [results, Tryd.results22, go_sem, World.cell?_setCell_same', k1, z1]) rfl ?_
      exact ⟨rfl, (by repeat' (first | (with_reducible refine bset ?_ ?_) | (with_reducible exact Below.refl _ _) | (with_reducible assumption) | (with_reducible refine bdrewN ?_ _) | (with_reducible refine bdrew ?_) | (with_reducible refine balloc0 ?_) | (with_reducible refine balloc ?_ ?_) | (with_reducible apply btrans0; rotate_left; with_reducible assumption) | (with_reducible apply btrans; rotate_left; with_reducible assumption) | exact Below.refl _ _ | assumption | (apply btrans0; rotate_left; assumption) | (apply btrans; rotate_left; assumption) | (simp; done) | omega | (simp; omega)))⟩
    | true =>
      have e1 : wrapE r seq life = 0 := by rw [hw]; simp
      rw [wrapB_ok e1, e1, hR]
      clear e1 hE hR hw
      simp only [bunC]
      unfold repV
      go_enter Tryd.func22, Tryd.ntmps22
      go_wp2_with fail
      refine (repEncode_any r _).mono ?_
      rw [HE.out, HR.out]
      rintro e w1 ⟨rfl, hb1⟩
      have z1 : w.heap.size + 1 < w1.heap.size := by have := hb1.size; simp at this; omega
      have z1a : w.heap.size < w1.heap.size := by omega
      obtain ⟨k1, f1⟩ := bcell hb1
      go_wp2_with fail
      refine (pwithin_any seq 0 1099511627776 _).mono ?_
      rw [HS.out]
      rintro e w2 ⟨rfl, rfl⟩
      go_wp2_with fail
      refine (pwithin_any life 1 (1099511627776 - r.time) _).mono ?_
      rw [HL.out]
      rintro e w2 ⟨rfl, rfl⟩
      go_wp2
      refine bodyPost_ret (v := .tuple #[.agg #[.int .i64 r.node, .int .i64 r.time, .int .i64 seq, .int .i64 0, .int .i64 0, .int .i64 1, .int .i64 r.src, .int .i64 life, .int .i64 1, .int .i64 6, .slice none 0 0, .string (B R)], .int .i64 0]) (by simp [results, Tryd.results22, go_sem, World.cell?_setCell_same', k1, z1]) rfl ?_
      exact ⟨rfl, (by repeat' (first | (with_reducible refine bset ?_ ?_) | (with_reducible exact Below.refl _ _) | (with_reducible assumption) | (with_reducible refine bdrewN ?_ _) | (with_reducible refine bdrew ?_) | (with_reducible refine balloc0 ?_) | (with_reducible refine balloc ?_ ?_) | (with_reducible apply btrans0; rotate_left; with_reducible assumption) | (with_reducible apply btrans; rotate_left; with_reducible assumption) | exact Below.refl _ _ | assumption | (apply btrans0; rotate_left; assumption) | (apply btrans; rotate_left; assumption) | (simp; done) | omega | (simp; omega)))⟩
set_option maxRecDepth 100000 in
set_option maxHeartbeats 4000000 in
theorem rwrap_any (r : Rep) (seq life : Int) (w : World) :
    Calls Tryd.prog 23 #[repV r, .int .i64 seq, .int .i64 life] w (WrapPost r seq life w) := by
  unfold WrapPost
  obtain ⟨E, hE⟩ : ∃ q, repE r = q := ⟨_, rfl⟩
  have HE := Lib.hid hE
  by_cases z : E = 0
  case neg =>
    have z' : (E != 0) = true := by rw [bne_iff_ne]; exact z
    have e1 : wrapE r seq life = E := by unfold wrapE; rw [hE, if_pos z]
    have HR : Hid (repR r = []) := Lib.hid (repR_bad (by rw [hE]; exact z))
    rw [wrapB_bad (by rw [e1]; exact z), e1]
    clear e1 hE z
    simp only [bunC, zBun]
    unfold repV
    go_enter Tryd.func23, Tryd.ntmps23
    go_wp2_with fail
    refine (rrepEncode_any r _).mono ?_
    rw [HE.out, HR.out]
    rintro e w1 ⟨rfl, hb1⟩
    have z1 : w.heap.size + 1 < w1.heap.size := by have := hb1.size; simp at this; omega
    obtain ⟨k1, f1⟩ := bcell hb1
    go_wp2
    refine bodyPost_ret (v := .tuple #[.agg #[.int .i64 0, .int .i64 0, .int .i64 0, .int .i64 0, .int .i64 0, .int .i64 0, .int .i64 0, .int .i64 0, .int .i64 0, .int .i64 0, .slice none 0 0, .string { data := #[] }], .int .i64 E]) (by simp [results, Tryd.results23, go_sem, World.cell?_setCell_same', k1, z1]) rfl ?_
    exact ⟨rfl, (by repeat' (first | (with_reducible refine bset ?_ ?_) | (with_reducible exact Below.refl _ _) | (with_reducible assumption) | (with_reducible refine bdrewN ?_ _) | (with_reducible refine bdrew ?_) | (with_reducible refine balloc0 ?_) | (with_reducible refine balloc ?_ ?_) | (with_reducible apply btrans0; rotate_left; with_reducible assumption) | (with_reducible apply btrans; rotate_left; with_reducible assumption) | exact Below.refl _ _ | assumption | (apply btrans0; rotate_left; assumption) | (apply btrans; rotate_left; assumption) | (simp; done) | omega | (simp; omega)))⟩
  subst z
  obtain ⟨rk1, rk2, rk3, rk4, rk5, rk6, rk7, -, -, -⟩ := rep_facts hE
  obtain ⟨R, hR⟩ : ∃ q, repR r = q := ⟨_, rfl⟩
  have HR := Lib.hid hR
  clear rk1 rk2 rk3 rk4 rk5
  by_cases c : 0 ≤ seq ∧ seq ≤ 1099511627776 ∧ 1 ≤ life ∧ life ≤ 1099511627776 - r.time
  · have e1 : wrapE r seq life = 0 := by unfold wrapE; rw [hE, if_neg (by simp), if_pos c]
    rw [wrapB_ok e1, e1, hR]
    obtain ⟨c1, c2, c3, c4⟩ := c
    clear e1 hE hR
    simp only [bunC]
    unfold repV
    go_enter Tryd.func23, Tryd.ntmps23
    go_wp2_with fail
    refine (rrepEncode_any r _).mono ?_
    rw [HE.out, HR.out]
    rintro e w1 ⟨rfl, hb1⟩
    have z1 : w.heap.size + 1 < w1.heap.size := by have := hb1.size; simp at this; omega
    have z1a : w.heap.size < w1.heap.size := by omega
    obtain ⟨k1, f1⟩ := bcell hb1
    go_wp2
    refine bodyPost_ret (v := .tuple #[.agg #[.int .i64 r.node, .int .i64 r.time, .int .i64 seq, .int .i64 0, .int .i64 0, .int .i64 1, .int .i64 r.src, .int .i64 life, .int .i64 1, .int .i64 6, .slice none 0 0, .string (B R)], .int .i64 0]) (by simp [results, Tryd.results23, go_sem, World.cell?_setCell_same', k1, z1]) rfl ?_
    exact ⟨rfl, (by repeat' (first | (with_reducible refine bset ?_ ?_) | (with_reducible exact Below.refl _ _) | (with_reducible assumption) | (with_reducible refine bdrewN ?_ _) | (with_reducible refine bdrew ?_) | (with_reducible refine balloc0 ?_) | (with_reducible refine balloc ?_ ?_) | (with_reducible apply btrans0; rotate_left; with_reducible assumption) | (with_reducible apply btrans; rotate_left; with_reducible assumption) | exact Below.refl _ _ | assumption | (apply btrans0; rotate_left; assumption) | (apply btrans; rotate_left; assumption) | (simp; done) | omega | (simp; omega)))⟩
  · have e1 : wrapE r seq life = 2 := by unfold wrapE; rw [hE, if_neg (by simp), if_neg c]
    rw [wrapB_bad (by rw [e1]; decide), e1]
    have C := Lib.hid c
    clear e1 hE hR c
    simp only [bunC, zBun]
    unfold repV
    go_enter Tryd.func23, Tryd.ntmps23
    go_wp2_with fail
    refine (rrepEncode_any r _).mono ?_
    rw [HE.out, HR.out]
    rintro e w1 ⟨rfl, hb1⟩
    have z1 : w.heap.size + 1 < w1.heap.size := by have := hb1.size; simp at this; omega
    have z1a : w.heap.size < w1.heap.size := by omega
    obtain ⟨k1, f1⟩ := bcell hb1
    go_wp2
    all_goals first
      | (exfalso; have := C.out; (try simp only [Bool.not_eq_true', Bool.not_eq_false', decide_eq_true_eq, decide_eq_false_iff_not, beq_iff_eq, beq_eq_false_iff_ne, bne_iff_ne, bne_eq_false_iff_eq, ne_eq, Bool.and_eq_true, Bool.or_eq_true, Bool.and_eq_false_imp, Bool.or_eq_false_iff] at *); omega)
      | (refine bodyPost_ret (v := .tuple #[.agg #[.int .i64 0, .int .i64 0, .int .i64 0, .int .i64 0, .int .i64 0, .int .i64 0, .int .i64 0, .int .i64 0, .int .i64 0, .int .i64 0, .slice none 0 0, .string { data := #[] }], .int .i64 2]) (by simp [results, Tryd.results23, go_sem, World.cell?_setCell_same', k1, z1]) rfl ?_
         exact ⟨rfl, (by repeat' (first | (with_reducible refine bset ?_ ?_) | (with_reducible exact Below.refl _ _) | (with_reducible assumption) | (with_reducible refine bdrewN ?_ _) | (with_reducible refine bdrew ?_) | (with_reducible refine balloc0 ?_) | (with_reducible refine balloc ?_ ?_) | (with_reducible apply btrans0; rotate_left; with_reducible assumption) | (with_reducible apply btrans; rotate_left; with_reducible assumption) | exact Below.refl _ _ | assumption | (apply btrans0; rotate_left; assumption) | (apply btrans; rotate_left; assumption) | (simp; done) | omega | (simp; omega)))⟩)
end Go.Proofs.YtcmkpnjbnjbegaaDoor
