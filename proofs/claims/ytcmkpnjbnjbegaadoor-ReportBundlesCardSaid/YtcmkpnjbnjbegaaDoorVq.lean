/- Layer 20 (report): Unwrap, both sides; the references' has and Wanted; the law's same. -/
import Derived.Test.YtcmkpnjbnjbegaaDoorVm
import Derived.Test.YtcmkpnjbnjbegaaDoorVk
set_option linter.unusedVariables false
set_option linter.unusedSimpArgs false
namespace Go.Proofs.YtcmkpnjbnjbegaaDoor
open Go Go.RowKit
attribute [local go_sem] B_getElem B_size B_app B_extract B_get B_toList

/-- the record in a bundle -/
def unwS (b : Bun) : Rep × Int :=
  if chkE b ≠ 0 then (zRep, 1) else if hasF b.flags 4 = false then (zRep, 8) else if (repDS b.payload).2 ≠ 0 then (zRep, 11)
  else if b.src = (repDS b.payload).1.node ∧ b.crt = (repDS b.payload).1.time ∧ b.dk = 1 ∧ b.dn = (repDS b.payload).1.src then ((repDS b.payload).1, 0) else (zRep, 10)
def UnwPost (b : Bun) (w : World) (e : Ending) (w' : World) : Prop := RepPost (unwS b).1 (unwS b).2 w e w'
set_option maxHeartbeats 2000000 in
theorem brhas_any (b : Bun) (u : Value) (f : Int) (w : World) (h1 : 0 ≤ b.flags) (h2 : b.flags ≤ 127) (hf : f = 1 ∨ f = 4 ∨ f = 8 ∨ f = 16 ∨ f = 32) :
    Calls Tryd.prog 56 #[.agg (bunC b u).toArray, .int .i64 f] w fun e w' => e = .returned (.bool (hasF b.flags f)) ∧ Below w.heap.size w w' := by
  have HD : Hid (hasF b.flags f = (b.flags / f % 2 == 1)) := Lib.hid rfl
  rcases hf with rfl | rfl | rfl | rfl | rfl
  all_goals
    go_enter Tryd.func56, Tryd.ntmps56
    simp only [bunC]
    go_wp2
    all_goals
      go_ret
      refine ⟨ret_bool ?_, (by repeat' (first | (with_reducible refine bset ?_ ?_) | (with_reducible exact Below.refl _ _) | (with_reducible assumption) | (with_reducible refine bdrewN ?_ _) | (with_reducible refine bdrew ?_) | (with_reducible refine balloc0 ?_) | (with_reducible refine balloc ?_ ?_) | (with_reducible apply btrans0; rotate_left; with_reducible assumption) | (with_reducible apply btrans; rotate_left; with_reducible assumption) | exact Below.refl _ _ | assumption | (apply btrans0; rotate_left; assumption) | (apply btrans; rotate_left; assumption) | (simp; done) | omega | (simp; omega)))⟩
      first | (rw [HD.out]; done) | (rw [HD.out]; simp; done)
set_option maxRecDepth 100000 in
set_option maxHeartbeats 4000000 in
theorem unwrap_any (b : Bun) (u : Value) (w : World) (h : RBlks w w.heap.size u b.blocks) (hf : Fits b) :
    Calls Tryd.prog 24 #[.agg (bunC b u).toArray] w (UnwPost b w) := by
  unfold UnwPost RepPost
  obtain ⟨U, hU⟩ : ∃ q, unwS b = q := ⟨_, rfl⟩
  rw [hU]
  have HF := Lib.hid hf
  have HR := Lib.hid h
  have hp := hf.1
  obtain ⟨a, c, rfl, h1, h2, h3, h4⟩ := h
  clear h1 h2 h3 h4 hf
  obtain ⟨E, hE⟩ : ∃ q, chkE b = q := ⟨_, rfl⟩
  have HE := Lib.hid hE
  by_cases z : E = 0
  case neg =>
    have z' : (E != 0) = true := by rw [bne_iff_ne]; exact z
    have HU : Hid (U = (zRep, 1)) := Lib.hid (by rw [← hU]; unfold unwS; rw [hE, if_pos z])
    clear hE z hU
    go_enter Tryd.func24, Tryd.ntmps24
    simp only [bunC]
    go_wp2_with fail
    refine (check_any b _ _ (HR.out.below' (by repeat' (first | (with_reducible refine bset ?_ ?_) | (with_reducible exact Below.refl _ _) | (with_reducible assumption) | (with_reducible refine bdrewN ?_ _) | (with_reducible refine bdrew ?_) | (with_reducible refine balloc0 ?_) | (with_reducible refine balloc ?_ ?_) | (with_reducible apply btrans0; rotate_left; with_reducible assumption) | (with_reducible apply btrans; rotate_left; with_reducible assumption) | exact Below.refl _ _ | assumption | (apply btrans0; rotate_left; assumption) | (apply btrans; rotate_left; assumption) | (simp; done) | omega | (simp; omega)))) HF.out).mono ?_
    rw [HE.out]
    rintro e w1 ⟨rfl, hb1⟩
    have hB1 : Below w.heap.size w w1 := (by repeat' (first | (with_reducible refine bset ?_ ?_) | (with_reducible exact Below.refl _ _) | (with_reducible assumption) | (with_reducible refine bdrewN ?_ _) | (with_reducible refine bdrew ?_) | (with_reducible refine balloc0 ?_) | (with_reducible refine balloc ?_ ?_) | (with_reducible apply btrans0; rotate_left; with_reducible assumption) | (with_reducible apply btrans; rotate_left; with_reducible assumption) | exact Below.refl _ _ | assumption | (apply btrans0; rotate_left; assumption) | (apply btrans; rotate_left; assumption) | (simp; done) | omega | (simp; omega)))
    have z1 : w.heap.size + 1 < w1.heap.size := by have := hb1.size; simp at this; omega
    have z1a : w.heap.size < w1.heap.size := by omega
    have A1 : w1.heap[w.heap.size]? = some (.cells (bunC b (.slice a b.blocks.length c)).toArray 36 (0, 0)) := (hb1.block _ (by simp; omega)).trans ((Below.heap_alloc _ _ _ (by simp)).trans heap_new)
    have ca := fun o => cellB A1 o
    simp only [bunC] at ca
    have HA1 := Lib.hid A1
    obtain ⟨k1, f1⟩ := bcell hb1
    clear A1 hb1
    go_wp2
    refine bodyPost_ret (v := .tuple #[.agg #[.int .i64 0, .int .i64 0, .int .i64 0, .int .i64 0, .int .i64 0, .int .i64 0, .int .i64 0, .int .i64 0, .int .i64 0], .int .i64 1]) (by simp [results, Tryd.results24, go_sem, World.cell?_setCell_same', k1, z1]) rfl ?_
    rw [HU.out]
    exact ⟨rfl, (by repeat' (first | (with_reducible refine bset ?_ ?_) | (with_reducible exact Below.refl _ _) | (with_reducible assumption) | (with_reducible refine bdrewN ?_ _) | (with_reducible refine bdrew ?_) | (with_reducible refine balloc0 ?_) | (with_reducible refine balloc ?_ ?_) | (with_reducible apply btrans0; rotate_left; with_reducible assumption) | (with_reducible apply btrans; rotate_left; with_reducible assumption) | exact Below.refl _ _ | assumption | (apply btrans0; rotate_left; assumption) | (apply btrans; rotate_left; assumption) | (simp; done) | omega | (simp; omega)))⟩
  subst z
  have hpl : b.payload.length ≤ 4096 := (valid_facts hE).2.2.2.2.1
  obtain ⟨g1, g2⟩ := chk_flags hE
  obtain ⟨a1, -, -⟩ := and_flag b.flags g1 g2
  have V1 : 0 ≤ b.flags := g1
  have V2 : b.flags ≤ 127 := g2
  obtain ⟨p, hpf⟩ : ∃ q, hasF b.flags 4 = q := ⟨_, rfl⟩
  have HP := Lib.hid hpf
  rw [hpf] at a1
  have a0 : (bits .and .i64 b.flags 4 == 0) = !p := by rw [← a1]; simp [bne]
  cases p with
  | false =>
    have HU : Hid (U = (zRep, 8)) := Lib.hid (by rw [← hU]; unfold unwS; rw [hE, hpf, if_neg (by simp), if_pos rfl])
    clear hE hU hpf
    go_enter Tryd.func24, Tryd.ntmps24
    simp only [bunC]
    go_wp2_with fail
    refine (check_any b _ _ (HR.out.below' (by repeat' (first | (with_reducible refine bset ?_ ?_) | (with_reducible exact Below.refl _ _) | (with_reducible assumption) | (with_reducible refine bdrewN ?_ _) | (with_reducible refine bdrew ?_) | (with_reducible refine balloc0 ?_) | (with_reducible refine balloc ?_ ?_) | (with_reducible apply btrans0; rotate_left; with_reducible assumption) | (with_reducible apply btrans; rotate_left; with_reducible assumption) | exact Below.refl _ _ | assumption | (apply btrans0; rotate_left; assumption) | (apply btrans; rotate_left; assumption) | (simp; done) | omega | (simp; omega)))) HF.out).mono ?_
    rw [HE.out]
    rintro e w1 ⟨rfl, hb1⟩
    have hB1 : Below w.heap.size w w1 := (by repeat' (first | (with_reducible refine bset ?_ ?_) | (with_reducible exact Below.refl _ _) | (with_reducible assumption) | (with_reducible refine bdrewN ?_ _) | (with_reducible refine bdrew ?_) | (with_reducible refine balloc0 ?_) | (with_reducible refine balloc ?_ ?_) | (with_reducible apply btrans0; rotate_left; with_reducible assumption) | (with_reducible apply btrans; rotate_left; with_reducible assumption) | exact Below.refl _ _ | assumption | (apply btrans0; rotate_left; assumption) | (apply btrans; rotate_left; assumption) | (simp; done) | omega | (simp; omega)))
    have z1 : w.heap.size + 1 < w1.heap.size := by have := hb1.size; simp at this; omega
    have z1a : w.heap.size < w1.heap.size := by omega
    have A1 : w1.heap[w.heap.size]? = some (.cells (bunC b (.slice a b.blocks.length c)).toArray 36 (0, 0)) := (hb1.block _ (by simp; omega)).trans ((Below.heap_alloc _ _ _ (by simp)).trans heap_new)
    have ca := fun o => cellB A1 o
    simp only [bunC] at ca
    have HA1 := Lib.hid A1
    obtain ⟨k1, f1⟩ := bcell hb1
    clear A1 hb1
    go_wp2
    refine bodyPost_ret (v := .tuple #[.agg #[.int .i64 0, .int .i64 0, .int .i64 0, .int .i64 0, .int .i64 0, .int .i64 0, .int .i64 0, .int .i64 0, .int .i64 0], .int .i64 8]) (by simp [results, Tryd.results24, go_sem, World.cell?_setCell_same', k1, z1]) rfl ?_
    rw [HU.out]
    exact ⟨rfl, (by repeat' (first | (with_reducible refine bset ?_ ?_) | (with_reducible exact Below.refl _ _) | (with_reducible assumption) | (with_reducible refine bdrewN ?_ _) | (with_reducible refine bdrew ?_) | (with_reducible refine balloc0 ?_) | (with_reducible refine balloc ?_ ?_) | (with_reducible apply btrans0; rotate_left; with_reducible assumption) | (with_reducible apply btrans; rotate_left; with_reducible assumption) | exact Below.refl _ _ | assumption | (apply btrans0; rotate_left; assumption) | (apply btrans; rotate_left; assumption) | (simp; done) | omega | (simp; omega)))⟩
  | true =>
    obtain ⟨D, hD⟩ : ∃ q, repDS b.payload = q := ⟨_, rfl⟩
    obtain ⟨D, ES⟩ := D
    have HS := Lib.hid hD
    have hU2 : U = if ES ≠ 0 then (zRep, 11) else if b.src = D.node ∧ b.crt = D.time ∧ b.dk = 1 ∧ b.dn = D.src then (D, 0) else (zRep, 10) := by
      rw [← hU]; unfold unwS; rw [hE, hpf, hD, if_neg (by simp), if_neg (by simp)]
    clear hU
    by_cases y : ES = 0
    case neg =>
      have y' : (ES != 0) = true := by rw [bne_iff_ne]; exact y
      have HU : Hid (U = (zRep, 11)) := Lib.hid (by rw [hU2, if_pos y])
      clear hE hU2 hpf hD y
      go_enter Tryd.func24, Tryd.ntmps24
      simp only [bunC]
      go_wp2_with fail
      refine (check_any b _ _ (HR.out.below' (by repeat' (first | (with_reducible refine bset ?_ ?_) | (with_reducible exact Below.refl _ _) | (with_reducible assumption) | (with_reducible refine bdrewN ?_ _) | (with_reducible refine bdrew ?_) | (with_reducible refine balloc0 ?_) | (with_reducible refine balloc ?_ ?_) | (with_reducible apply btrans0; rotate_left; with_reducible assumption) | (with_reducible apply btrans; rotate_left; with_reducible assumption) | exact Below.refl _ _ | assumption | (apply btrans0; rotate_left; assumption) | (apply btrans; rotate_left; assumption) | (simp; done) | omega | (simp; omega)))) HF.out).mono ?_
      rw [HE.out]
      rintro e w1 ⟨rfl, hb1⟩
      have hB1 : Below w.heap.size w w1 := (by repeat' (first | (with_reducible refine bset ?_ ?_) | (with_reducible exact Below.refl _ _) | (with_reducible assumption) | (with_reducible refine bdrewN ?_ _) | (with_reducible refine bdrew ?_) | (with_reducible refine balloc0 ?_) | (with_reducible refine balloc ?_ ?_) | (with_reducible apply btrans0; rotate_left; with_reducible assumption) | (with_reducible apply btrans; rotate_left; with_reducible assumption) | exact Below.refl _ _ | assumption | (apply btrans0; rotate_left; assumption) | (apply btrans; rotate_left; assumption) | (simp; done) | omega | (simp; omega)))
      have z1 : w.heap.size + 1 < w1.heap.size := by have := hb1.size; simp at this; omega
      have z1a : w.heap.size < w1.heap.size := by omega
      have A1 : w1.heap[w.heap.size]? = some (.cells (bunC b (.slice a b.blocks.length c)).toArray 36 (0, 0)) := (hb1.block _ (by simp; omega)).trans ((Below.heap_alloc _ _ _ (by simp)).trans heap_new)
      have ca := fun o => cellB A1 o
      simp only [bunC] at ca
      have HA1 := Lib.hid A1
      obtain ⟨k1, f1⟩ := bcell hb1
      clear A1 hb1
      go_wp2_with fail
      refine (repDecode_any b.payload _ (by omega)).mono ?_
      rw [HS.out]
      unfold RepPost
      simp only
      rintro e w3 ⟨rfl, hb3⟩
      have hB3 : Below w.heap.size w w3 := (by repeat' (first | (with_reducible refine bset ?_ ?_) | (with_reducible exact Below.refl _ _) | (with_reducible assumption) | (with_reducible refine bdrewN ?_ _) | (with_reducible refine bdrew ?_) | (with_reducible refine balloc0 ?_) | (with_reducible refine balloc ?_ ?_) | (with_reducible apply btrans0; rotate_left; with_reducible assumption) | (with_reducible apply btrans; rotate_left; with_reducible assumption) | exact Below.refl _ _ | assumption | (apply btrans0; rotate_left; assumption) | (apply btrans; rotate_left; assumption) | (simp; done) | omega | (simp; omega)))
      have z3 : w.heap.size + 1 < w3.heap.size := by have := hb3.size; omega
      have z3a : w.heap.size < w3.heap.size := by omega
      have A3 := (hb3.block _ z1a).trans HA1.out
      clear ca
      have ca := fun o => cellB A3 o
      simp only [bunC] at ca
      obtain ⟨k3, f3⟩ := bcell hb3
      clear A3 hb3
      unfold repV
      go_wp2
      refine bodyPost_ret (v := .tuple #[.agg #[.int .i64 0, .int .i64 0, .int .i64 0, .int .i64 0, .int .i64 0, .int .i64 0, .int .i64 0, .int .i64 0, .int .i64 0], .int .i64 11]) (by simp [results, Tryd.results24, go_sem, World.cell?_setCell_same', k1, k3, z1, z3]) rfl ?_
      rw [HU.out]
      exact ⟨rfl, (by repeat' (first | (with_reducible refine bset ?_ ?_) | (with_reducible exact Below.refl _ _) | (with_reducible assumption) | (with_reducible refine bdrewN ?_ _) | (with_reducible refine bdrew ?_) | (with_reducible refine balloc0 ?_) | (with_reducible refine balloc ?_ ?_) | (with_reducible apply btrans0; rotate_left; with_reducible assumption) | (with_reducible apply btrans; rotate_left; with_reducible assumption) | exact Below.refl _ _ | assumption | (apply btrans0; rotate_left; assumption) | (apply btrans; rotate_left; assumption) | (simp; done) | omega | (simp; omega)))⟩
    subst y
    have HU : Hid (U = if b.src = D.node ∧ b.crt = D.time ∧ b.dk = 1 ∧ b.dn = D.src then (D, 0) else (zRep, 10)) := Lib.hid (by rw [hU2, if_neg (by simp)])
    clear hE hU2 hpf hD
    go_enter Tryd.func24, Tryd.ntmps24
    simp only [bunC]
    go_wp2_with fail
    refine (check_any b _ _ (HR.out.below' (by repeat' (first | (with_reducible refine bset ?_ ?_) | (with_reducible exact Below.refl _ _) | (with_reducible assumption) | (with_reducible refine bdrewN ?_ _) | (with_reducible refine bdrew ?_) | (with_reducible refine balloc0 ?_) | (with_reducible refine balloc ?_ ?_) | (with_reducible apply btrans0; rotate_left; with_reducible assumption) | (with_reducible apply btrans; rotate_left; with_reducible assumption) | exact Below.refl _ _ | assumption | (apply btrans0; rotate_left; assumption) | (apply btrans; rotate_left; assumption) | (simp; done) | omega | (simp; omega)))) HF.out).mono ?_
    rw [HE.out]
    rintro e w1 ⟨rfl, hb1⟩
    have hB1 : Below w.heap.size w w1 := (by repeat' (first | (with_reducible refine bset ?_ ?_) | (with_reducible exact Below.refl _ _) | (with_reducible assumption) | (with_reducible refine bdrewN ?_ _) | (with_reducible refine bdrew ?_) | (with_reducible refine balloc0 ?_) | (with_reducible refine balloc ?_ ?_) | (with_reducible apply btrans0; rotate_left; with_reducible assumption) | (with_reducible apply btrans; rotate_left; with_reducible assumption) | exact Below.refl _ _ | assumption | (apply btrans0; rotate_left; assumption) | (apply btrans; rotate_left; assumption) | (simp; done) | omega | (simp; omega)))
    have z1 : w.heap.size + 1 < w1.heap.size := by have := hb1.size; simp at this; omega
    have z1a : w.heap.size < w1.heap.size := by omega
    have A1 : w1.heap[w.heap.size]? = some (.cells (bunC b (.slice a b.blocks.length c)).toArray 36 (0, 0)) := (hb1.block _ (by simp; omega)).trans ((Below.heap_alloc _ _ _ (by simp)).trans heap_new)
    have ca := fun o => cellB A1 o
    simp only [bunC] at ca
    have HA1 := Lib.hid A1
    obtain ⟨k1, f1⟩ := bcell hb1
    clear A1 hb1
    go_wp2_with fail
    refine (repDecode_any b.payload _ (by omega)).mono ?_
    rw [HS.out]
    unfold RepPost
    simp only
    rintro e w3 ⟨rfl, hb3⟩
    have hB3 : Below w.heap.size w w3 := (by repeat' (first | (with_reducible refine bset ?_ ?_) | (with_reducible exact Below.refl _ _) | (with_reducible assumption) | (with_reducible refine bdrewN ?_ _) | (with_reducible refine bdrew ?_) | (with_reducible refine balloc0 ?_) | (with_reducible refine balloc ?_ ?_) | (with_reducible apply btrans0; rotate_left; with_reducible assumption) | (with_reducible apply btrans; rotate_left; with_reducible assumption) | exact Below.refl _ _ | assumption | (apply btrans0; rotate_left; assumption) | (apply btrans; rotate_left; assumption) | (simp; done) | omega | (simp; omega)))
    have z3 : w.heap.size + 1 < w3.heap.size := by have := hb3.size; omega
    have z3a : w.heap.size < w3.heap.size := by omega
    have A3 := (hb3.block _ z1a).trans HA1.out
    clear ca
    have ca := fun o => cellB A3 o
    simp only [bunC] at ca
    obtain ⟨k3, f3⟩ := bcell hb3
    clear A3 hb3
    unfold repV
    go_wp2
    all_goals first
      | (have HX : Hid (U = (zRep, 10)) := (by rw [HU.out]; refine Lib.hid (if_neg ?_); rintro ⟨q1, q2, q3, q4⟩; (try simp only [Bool.not_eq_true', Bool.not_eq_false', decide_eq_true_eq, decide_eq_false_iff_not, beq_iff_eq, beq_eq_false_iff_ne, bne_iff_ne, bne_eq_false_iff_eq, ne_eq, Bool.and_eq_true, Bool.or_eq_true, Bool.and_eq_false_imp, Bool.or_eq_false_iff] at *); first | contradiction | omega)
         refine bodyPost_ret (v := .tuple #[.agg #[.int .i64 0, .int .i64 0, .int .i64 0, .int .i64 0, .int .i64 0, .int .i64 0, .int .i64 0, .int .i64 0, .int .i64 0], .int .i64 10]) (by simp [results, Tryd.results24, go_sem, World.cell?_setCell_same', k1, k3, z1, z3]) rfl ?_
         rw [HX.out]
         exact ⟨rfl, (by repeat' (first | (with_reducible refine bset ?_ ?_) | (with_reducible exact Below.refl _ _) | (with_reducible assumption) | (with_reducible refine bdrewN ?_ _) | (with_reducible refine bdrew ?_) | (with_reducible refine balloc0 ?_) | (with_reducible refine balloc ?_ ?_) | (with_reducible apply btrans0; rotate_left; with_reducible assumption) | (with_reducible apply btrans; rotate_left; with_reducible assumption) | exact Below.refl _ _ | assumption | (apply btrans0; rotate_left; assumption) | (apply btrans; rotate_left; assumption) | (simp; done) | omega | (simp; omega)))⟩)
      | (have HX : Hid (U = (D, 0)) := (by rw [HU.out]; refine Lib.hid (if_pos ?_); (try simp only [Bool.not_eq_true', Bool.not_eq_false', decide_eq_true_eq, decide_eq_false_iff_not, beq_iff_eq, beq_eq_false_iff_ne, bne_iff_ne, bne_eq_false_iff_eq, ne_eq, Bool.and_eq_true, Bool.or_eq_true, Bool.and_eq_false_imp, Bool.or_eq_false_iff] at *); refine ⟨?_, ?_, ?_, ?_⟩ <;> first | assumption | omega)
         refine bodyPost_ret (v := .tuple #[repV D, .int .i64 0]) (by simp [results, Tryd.results24, go_sem, World.cell?_setCell_same', k1, k3, z1, z3, repV]) rfl ?_
         rw [HX.out]
         exact ⟨rfl, (by repeat' (first | (with_reducible refine bset ?_ ?_) | (with_reducible exact Below.refl _ _) | (with_reducible assumption) | (with_reducible refine bdrewN ?_ _) | (with_reducible refine bdrew ?_) | (with_reducible refine balloc0 ?_) | (with_reducible refine balloc ?_ ?_) | (with_reducible apply btrans0; rotate_left; with_reducible assumption) | (with_reducible apply btrans; rotate_left; with_reducible assumption) | exact Below.refl _ _ | assumption | (apply btrans0; rotate_left; assumption) | (apply btrans; rotate_left; assumption) | (simp; done) | omega | (simp; omega)))⟩)
set_option maxRecDepth 100000 in
set_option maxHeartbeats 4000000 in
theorem runwrap_any (b : Bun) (u : Value) (w : World) (h : RBlks w w.heap.size u b.blocks) (hf : Fits b) :
    Calls Tryd.prog 25 #[.agg (bunC b u).toArray] w (UnwPost b w) := by
  unfold UnwPost RepPost
  obtain ⟨U, hU⟩ : ∃ q, unwS b = q := ⟨_, rfl⟩
  rw [hU]
  have HF := Lib.hid hf
  have HR := Lib.hid h
  have hp := hf.1
  obtain ⟨a, c, rfl, h1, h2, h3, h4⟩ := h
  clear h1 h2 h3 h4 hf
  obtain ⟨E, hE⟩ : ∃ q, chkE b = q := ⟨_, rfl⟩
  have HE := Lib.hid hE
  by_cases z : E = 0
  case neg =>
    have z' : (E != 0) = true := by rw [bne_iff_ne]; exact z
    have HU : Hid (U = (zRep, 1)) := Lib.hid (by rw [← hU]; unfold unwS; rw [hE, if_pos z])
    clear hE z hU
    go_enter Tryd.func25, Tryd.ntmps25
    simp only [bunC]
    go_wp2_with fail
    refine (rcheck_any b _ _ (HR.out.below' (by repeat' (first | (with_reducible refine bset ?_ ?_) | (with_reducible exact Below.refl _ _) | (with_reducible assumption) | (with_reducible refine bdrewN ?_ _) | (with_reducible refine bdrew ?_) | (with_reducible refine balloc0 ?_) | (with_reducible refine balloc ?_ ?_) | (with_reducible apply btrans0; rotate_left; with_reducible assumption) | (with_reducible apply btrans; rotate_left; with_reducible assumption) | exact Below.refl _ _ | assumption | (apply btrans0; rotate_left; assumption) | (apply btrans; rotate_left; assumption) | (simp; done) | omega | (simp; omega)))) HF.out).mono ?_
    rw [HE.out]
    rintro e w1 ⟨rfl, hb1⟩
    have hB1 : Below w.heap.size w w1 := (by repeat' (first | (with_reducible refine bset ?_ ?_) | (with_reducible exact Below.refl _ _) | (with_reducible assumption) | (with_reducible refine bdrewN ?_ _) | (with_reducible refine bdrew ?_) | (with_reducible refine balloc0 ?_) | (with_reducible refine balloc ?_ ?_) | (with_reducible apply btrans0; rotate_left; with_reducible assumption) | (with_reducible apply btrans; rotate_left; with_reducible assumption) | exact Below.refl _ _ | assumption | (apply btrans0; rotate_left; assumption) | (apply btrans; rotate_left; assumption) | (simp; done) | omega | (simp; omega)))
    have z1 : w.heap.size + 1 < w1.heap.size := by have := hb1.size; simp at this; omega
    have z1a : w.heap.size < w1.heap.size := by omega
    have A1 : w1.heap[w.heap.size]? = some (.cells (bunC b (.slice a b.blocks.length c)).toArray 36 (0, 0)) := (hb1.block _ (by simp; omega)).trans ((Below.heap_alloc _ _ _ (by simp)).trans heap_new)
    have ca := fun o => cellB A1 o
    simp only [bunC] at ca
    have HA1 := Lib.hid A1
    obtain ⟨k1, f1⟩ := bcell hb1
    clear A1 hb1
    go_wp2
    refine bodyPost_ret (v := .tuple #[.agg #[.int .i64 0, .int .i64 0, .int .i64 0, .int .i64 0, .int .i64 0, .int .i64 0, .int .i64 0, .int .i64 0, .int .i64 0], .int .i64 1]) (by simp [results, Tryd.results25, go_sem, World.cell?_setCell_same', k1, z1]) rfl ?_
    rw [HU.out]
    exact ⟨rfl, (by repeat' (first | (with_reducible refine bset ?_ ?_) | (with_reducible exact Below.refl _ _) | (with_reducible assumption) | (with_reducible refine bdrewN ?_ _) | (with_reducible refine bdrew ?_) | (with_reducible refine balloc0 ?_) | (with_reducible refine balloc ?_ ?_) | (with_reducible apply btrans0; rotate_left; with_reducible assumption) | (with_reducible apply btrans; rotate_left; with_reducible assumption) | exact Below.refl _ _ | assumption | (apply btrans0; rotate_left; assumption) | (apply btrans; rotate_left; assumption) | (simp; done) | omega | (simp; omega)))⟩
  subst z
  have hpl : b.payload.length ≤ 4096 := (valid_facts hE).2.2.2.2.1
  obtain ⟨g1, g2⟩ := chk_flags hE
  obtain ⟨a1, -, -⟩ := and_flag b.flags g1 g2
  have V1 : 0 ≤ b.flags := g1
  have V2 : b.flags ≤ 127 := g2
  obtain ⟨p, hpf⟩ : ∃ q, hasF b.flags 4 = q := ⟨_, rfl⟩
  have HP := Lib.hid hpf
  rw [hpf] at a1
  have a0 : (bits .and .i64 b.flags 4 == 0) = !p := by rw [← a1]; simp [bne]
  cases p with
  | false =>
    have HU : Hid (U = (zRep, 8)) := Lib.hid (by rw [← hU]; unfold unwS; rw [hE, hpf, if_neg (by simp), if_pos rfl])
    clear hE hU hpf
    go_enter Tryd.func25, Tryd.ntmps25
    simp only [bunC]
    go_wp2_with fail
    refine (rcheck_any b _ _ (HR.out.below' (by repeat' (first | (with_reducible refine bset ?_ ?_) | (with_reducible exact Below.refl _ _) | (with_reducible assumption) | (with_reducible refine bdrewN ?_ _) | (with_reducible refine bdrew ?_) | (with_reducible refine balloc0 ?_) | (with_reducible refine balloc ?_ ?_) | (with_reducible apply btrans0; rotate_left; with_reducible assumption) | (with_reducible apply btrans; rotate_left; with_reducible assumption) | exact Below.refl _ _ | assumption | (apply btrans0; rotate_left; assumption) | (apply btrans; rotate_left; assumption) | (simp; done) | omega | (simp; omega)))) HF.out).mono ?_
    rw [HE.out]
    rintro e w1 ⟨rfl, hb1⟩
    have hB1 : Below w.heap.size w w1 := (by repeat' (first | (with_reducible refine bset ?_ ?_) | (with_reducible exact Below.refl _ _) | (with_reducible assumption) | (with_reducible refine bdrewN ?_ _) | (with_reducible refine bdrew ?_) | (with_reducible refine balloc0 ?_) | (with_reducible refine balloc ?_ ?_) | (with_reducible apply btrans0; rotate_left; with_reducible assumption) | (with_reducible apply btrans; rotate_left; with_reducible assumption) | exact Below.refl _ _ | assumption | (apply btrans0; rotate_left; assumption) | (apply btrans; rotate_left; assumption) | (simp; done) | omega | (simp; omega)))
    have z1 : w.heap.size + 1 < w1.heap.size := by have := hb1.size; simp at this; omega
    have z1a : w.heap.size < w1.heap.size := by omega
    have A1 : w1.heap[w.heap.size]? = some (.cells (bunC b (.slice a b.blocks.length c)).toArray 36 (0, 0)) := (hb1.block _ (by simp; omega)).trans ((Below.heap_alloc _ _ _ (by simp)).trans heap_new)
    have ca := fun o => cellB A1 o
    simp only [bunC] at ca
    have HA1 := Lib.hid A1
    obtain ⟨k1, f1⟩ := bcell hb1
    clear A1 hb1
    go_wp2_with fail
    refine (brhas_any b _ 4 _ V1 V2 (by decide)).mono ?_
    rw [HP.out]
    rintro e w2 ⟨rfl, hb2⟩
    have hB2 : Below w.heap.size w w2 := (by repeat' (first | (with_reducible refine bset ?_ ?_) | (with_reducible exact Below.refl _ _) | (with_reducible assumption) | (with_reducible refine bdrewN ?_ _) | (with_reducible refine bdrew ?_) | (with_reducible refine balloc0 ?_) | (with_reducible refine balloc ?_ ?_) | (with_reducible apply btrans0; rotate_left; with_reducible assumption) | (with_reducible apply btrans; rotate_left; with_reducible assumption) | exact Below.refl _ _ | assumption | (apply btrans0; rotate_left; assumption) | (apply btrans; rotate_left; assumption) | (simp; done) | omega | (simp; omega)))
    have z2 : w.heap.size + 1 < w2.heap.size := by have := hb2.size; omega
    have z2a : w.heap.size < w2.heap.size := by omega
    have A2 := (hb2.block _ z1a).trans HA1.out
    clear ca
    have ca := fun o => cellB A2 o
    simp only [bunC] at ca
    have HA2 := Lib.hid A2
    obtain ⟨k2, f2⟩ := bcell hb2
    clear A2 hb2
    go_wp2
    refine bodyPost_ret (v := .tuple #[.agg #[.int .i64 0, .int .i64 0, .int .i64 0, .int .i64 0, .int .i64 0, .int .i64 0, .int .i64 0, .int .i64 0, .int .i64 0], .int .i64 8]) (by simp [results, Tryd.results25, go_sem, World.cell?_setCell_same', k1, k2, z1, z2]) rfl ?_
    rw [HU.out]
    exact ⟨rfl, (by repeat' (first | (with_reducible refine bset ?_ ?_) | (with_reducible exact Below.refl _ _) | (with_reducible assumption) | (with_reducible refine bdrewN ?_ _) | (with_reducible refine bdrew ?_) | (with_reducible refine balloc0 ?_) | (with_reducible refine balloc ?_ ?_) | (with_reducible apply btrans0; rotate_left; with_reducible assumption) | (with_reducible apply btrans; rotate_left; with_reducible assumption) | exact Below.refl _ _ | assumption | (apply btrans0; rotate_left; assumption) | (apply btrans; rotate_left; assumption) | (simp; done) | omega | (simp; omega)))⟩
  | true =>
    obtain ⟨D, hD⟩ : ∃ q, repDS b.payload = q := ⟨_, rfl⟩
    obtain ⟨D, ES⟩ := D
    have HS := Lib.hid hD
    have hU2 : U = if ES ≠ 0 then (zRep, 11) else if b.src = D.node ∧ b.crt = D.time ∧ b.dk = 1 ∧ b.dn = D.src then (D, 0) else (zRep, 10) := by
      rw [← hU]; unfold unwS; rw [hE, hpf, hD, if_neg (by simp), if_neg (by simp)]
    clear hU
    by_cases y : ES = 0
    case neg =>
      have y' : (ES != 0) = true := by rw [bne_iff_ne]; exact y
      have HU : Hid (U = (zRep, 11)) := Lib.hid (by rw [hU2, if_pos y])
      clear hE hU2 hpf hD y
      go_enter Tryd.func25, Tryd.ntmps25
      simp only [bunC]
      go_wp2_with fail
      refine (rcheck_any b _ _ (HR.out.below' (by repeat' (first | (with_reducible refine bset ?_ ?_) | (with_reducible exact Below.refl _ _) | (with_reducible assumption) | (with_reducible refine bdrewN ?_ _) | (with_reducible refine bdrew ?_) | (with_reducible refine balloc0 ?_) | (with_reducible refine balloc ?_ ?_) | (with_reducible apply btrans0; rotate_left; with_reducible assumption) | (with_reducible apply btrans; rotate_left; with_reducible assumption) | exact Below.refl _ _ | assumption | (apply btrans0; rotate_left; assumption) | (apply btrans; rotate_left; assumption) | (simp; done) | omega | (simp; omega)))) HF.out).mono ?_
      rw [HE.out]
      rintro e w1 ⟨rfl, hb1⟩
      have hB1 : Below w.heap.size w w1 := (by repeat' (first | (with_reducible refine bset ?_ ?_) | (with_reducible exact Below.refl _ _) | (with_reducible assumption) | (with_reducible refine bdrewN ?_ _) | (with_reducible refine bdrew ?_) | (with_reducible refine balloc0 ?_) | (with_reducible refine balloc ?_ ?_) | (with_reducible apply btrans0; rotate_left; with_reducible assumption) | (with_reducible apply btrans; rotate_left; with_reducible assumption) | exact Below.refl _ _ | assumption | (apply btrans0; rotate_left; assumption) | (apply btrans; rotate_left; assumption) | (simp; done) | omega | (simp; omega)))
      have z1 : w.heap.size + 1 < w1.heap.size := by have := hb1.size; simp at this; omega
      have z1a : w.heap.size < w1.heap.size := by omega
      have A1 : w1.heap[w.heap.size]? = some (.cells (bunC b (.slice a b.blocks.length c)).toArray 36 (0, 0)) := (hb1.block _ (by simp; omega)).trans ((Below.heap_alloc _ _ _ (by simp)).trans heap_new)
      have ca := fun o => cellB A1 o
      simp only [bunC] at ca
      have HA1 := Lib.hid A1
      obtain ⟨k1, f1⟩ := bcell hb1
      clear A1 hb1
      go_wp2_with fail
      refine (brhas_any b _ 4 _ V1 V2 (by decide)).mono ?_
      rw [HP.out]
      rintro e w2 ⟨rfl, hb2⟩
      have hB2 : Below w.heap.size w w2 := (by repeat' (first | (with_reducible refine bset ?_ ?_) | (with_reducible exact Below.refl _ _) | (with_reducible assumption) | (with_reducible refine bdrewN ?_ _) | (with_reducible refine bdrew ?_) | (with_reducible refine balloc0 ?_) | (with_reducible refine balloc ?_ ?_) | (with_reducible apply btrans0; rotate_left; with_reducible assumption) | (with_reducible apply btrans; rotate_left; with_reducible assumption) | exact Below.refl _ _ | assumption | (apply btrans0; rotate_left; assumption) | (apply btrans; rotate_left; assumption) | (simp; done) | omega | (simp; omega)))
      have z2 : w.heap.size + 1 < w2.heap.size := by have := hb2.size; omega
      have z2a : w.heap.size < w2.heap.size := by omega
      have A2 := (hb2.block _ z1a).trans HA1.out
      clear ca
      have ca := fun o => cellB A2 o
      simp only [bunC] at ca
      have HA2 := Lib.hid A2
      obtain ⟨k2, f2⟩ := bcell hb2
      clear A2 hb2
      go_wp2_with fail
      refine (rrepDecode_any b.payload _ (by omega)).mono ?_
      rw [HS.out]
      unfold RepPost
      simp only
      rintro e w3 ⟨rfl, hb3⟩
      have hB3 : Below w.heap.size w w3 := (by repeat' (first | (with_reducible refine bset ?_ ?_) | (with_reducible exact Below.refl _ _) | (with_reducible assumption) | (with_reducible refine bdrewN ?_ _) | (with_reducible refine bdrew ?_) | (with_reducible refine balloc0 ?_) | (with_reducible refine balloc ?_ ?_) | (with_reducible apply btrans0; rotate_left; with_reducible assumption) | (with_reducible apply btrans; rotate_left; with_reducible assumption) | exact Below.refl _ _ | assumption | (apply btrans0; rotate_left; assumption) | (apply btrans; rotate_left; assumption) | (simp; done) | omega | (simp; omega)))
      have z3 : w.heap.size + 1 < w3.heap.size := by have := hb3.size; omega
      have z3a : w.heap.size < w3.heap.size := by omega
      have A3 := (hb3.block _ z2a).trans HA2.out
      clear ca
      have ca := fun o => cellB A3 o
      simp only [bunC] at ca
      obtain ⟨k3, f3⟩ := bcell hb3
      clear A3 hb3
      unfold repV
      go_wp2
      refine bodyPost_ret (v := .tuple #[.agg #[.int .i64 0, .int .i64 0, .int .i64 0, .int .i64 0, .int .i64 0, .int .i64 0, .int .i64 0, .int .i64 0, .int .i64 0], .int .i64 11]) (by simp [results, Tryd.results25, go_sem, World.cell?_setCell_same', k1, k2, k3, z1, z2, z3]) rfl ?_
      rw [HU.out]
      exact ⟨rfl, (by repeat' (first | (with_reducible refine bset ?_ ?_) | (with_reducible exact Below.refl _ _) | (with_reducible assumption) | (with_reducible refine bdrewN ?_ _) | (with_reducible refine bdrew ?_) | (with_reducible refine balloc0 ?_) | (with_reducible refine balloc ?_ ?_) | (with_reducible apply btrans0; rotate_left; with_reducible assumption) | (with_reducible apply btrans; rotate_left; with_reducible assumption) | exact Below.refl _ _ | assumption | (apply btrans0; rotate_left; assumption) | (apply btrans; rotate_left; assumption) | (simp; done) | omega | (simp; omega)))⟩
    subst y
    have HU : Hid (U = if b.src = D.node ∧ b.crt = D.time ∧ b.dk = 1 ∧ b.dn = D.src then (D, 0) else (zRep, 10)) := Lib.hid (by rw [hU2, if_neg (by simp)])
    clear hE hU2 hpf hD
    go_enter Tryd.func25, Tryd.ntmps25
    simp only [bunC]
    go_wp2_with fail
    refine (rcheck_any b _ _ (HR.out.below' (by repeat' (first | (with_reducible refine bset ?_ ?_) | (with_reducible exact Below.refl _ _) | (with_reducible assumption) | (with_reducible refine bdrewN ?_ _) | (with_reducible refine bdrew ?_) | (with_reducible refine balloc0 ?_) | (with_reducible refine balloc ?_ ?_) | (with_reducible apply btrans0; rotate_left; with_reducible assumption) | (with_reducible apply btrans; rotate_left; with_reducible assumption) | exact Below.refl _ _ | assumption | (apply btrans0; rotate_left; assumption) | (apply btrans; rotate_left; assumption) | (simp; done) | omega | (simp; omega)))) HF.out).mono ?_
    rw [HE.out]
    rintro e w1 ⟨rfl, hb1⟩
    have hB1 : Below w.heap.size w w1 := (by repeat' (first | (with_reducible refine bset ?_ ?_) | (with_reducible exact Below.refl _ _) | (with_reducible assumption) | (with_reducible refine bdrewN ?_ _) | (with_reducible refine bdrew ?_) | (with_reducible refine balloc0 ?_) | (with_reducible refine balloc ?_ ?_) | (with_reducible apply btrans0; rotate_left; with_reducible assumption) | (with_reducible apply btrans; rotate_left; with_reducible assumption) | exact Below.refl _ _ | assumption | (apply btrans0; rotate_left; assumption) | (apply btrans; rotate_left; assumption) | (simp; done) | omega | (simp; omega)))
    have z1 : w.heap.size + 1 < w1.heap.size := by have := hb1.size; simp at this; omega
    have z1a : w.heap.size < w1.heap.size := by omega
    have A1 : w1.heap[w.heap.size]? = some (.cells (bunC b (.slice a b.blocks.length c)).toArray 36 (0, 0)) := (hb1.block _ (by simp; omega)).trans ((Below.heap_alloc _ _ _ (by simp)).trans heap_new)
    have ca := fun o => cellB A1 o
    simp only [bunC] at ca
    have HA1 := Lib.hid A1
    obtain ⟨k1, f1⟩ := bcell hb1
    clear A1 hb1
    go_wp2_with fail
    refine (brhas_any b _ 4 _ V1 V2 (by decide)).mono ?_
    rw [HP.out]
    rintro e w2 ⟨rfl, hb2⟩
    have hB2 : Below w.heap.size w w2 := (by repeat' (first | (with_reducible refine bset ?_ ?_) | (with_reducible exact Below.refl _ _) | (with_reducible assumption) | (with_reducible refine bdrewN ?_ _) | (with_reducible refine bdrew ?_) | (with_reducible refine balloc0 ?_) | (with_reducible refine balloc ?_ ?_) | (with_reducible apply btrans0; rotate_left; with_reducible assumption) | (with_reducible apply btrans; rotate_left; with_reducible assumption) | exact Below.refl _ _ | assumption | (apply btrans0; rotate_left; assumption) | (apply btrans; rotate_left; assumption) | (simp; done) | omega | (simp; omega)))
    have z2 : w.heap.size + 1 < w2.heap.size := by have := hb2.size; omega
    have z2a : w.heap.size < w2.heap.size := by omega
    have A2 := (hb2.block _ z1a).trans HA1.out
    clear ca
    have ca := fun o => cellB A2 o
    simp only [bunC] at ca
    have HA2 := Lib.hid A2
    obtain ⟨k2, f2⟩ := bcell hb2
    clear A2 hb2
    go_wp2_with fail
    refine (rrepDecode_any b.payload _ (by omega)).mono ?_
    rw [HS.out]
    unfold RepPost
    simp only
    rintro e w3 ⟨rfl, hb3⟩
    have hB3 : Below w.heap.size w w3 := (by repeat' (first | (with_reducible refine bset ?_ ?_) | (with_reducible exact Below.refl _ _) | (with_reducible assumption) | (with_reducible refine bdrewN ?_ _) | (with_reducible refine bdrew ?_) | (with_reducible refine balloc0 ?_) | (with_reducible refine balloc ?_ ?_) | (with_reducible apply btrans0; rotate_left; with_reducible assumption) | (with_reducible apply btrans; rotate_left; with_reducible assumption) | exact Below.refl _ _ | assumption | (apply btrans0; rotate_left; assumption) | (apply btrans; rotate_left; assumption) | (simp; done) | omega | (simp; omega)))
    have z3 : w.heap.size + 1 < w3.heap.size := by have := hb3.size; omega
    have z3a : w.heap.size < w3.heap.size := by omega
    have A3 := (hb3.block _ z2a).trans HA2.out
    clear ca
    have ca := fun o => cellB A3 o
    simp only [bunC] at ca
    obtain ⟨k3, f3⟩ := bcell hb3
    clear A3 hb3
    unfold repV
    go_wp2
    all_goals first
      | (have HX : Hid (U = (zRep, 10)) := (by rw [HU.out]; refine Lib.hid (if_neg ?_); rintro ⟨q1, q2, q3, q4⟩; (try simp only [Bool.not_eq_true', Bool.not_eq_false', decide_eq_true_eq, decide_eq_false_iff_not, beq_iff_eq, beq_eq_false_iff_ne, bne_iff_ne, bne_eq_false_iff_eq, ne_eq, Bool.and_eq_true, Bool.or_eq_true, Bool.and_eq_false_imp, Bool.or_eq_false_iff] at *); first | contradiction | omega)
         refine bodyPost_ret (v := .tuple #[.agg #[.int .i64 0, .int .i64 0, .int .i64 0, .int .i64 0, .int .i64 0, .int .i64 0, .int .i64 0, .int .i64 0, .int .i64 0], .int .i64 10]) (by simp [results, Tryd.results25, go_sem, World.cell?_setCell_same', k1, k2, k3, z1, z2, z3]) rfl ?_
         rw [HX.out]
         exact ⟨rfl, (by repeat' (first | (with_reducible refine bset ?_ ?_) | (with_reducible exact Below.refl _ _) | (with_reducible assumption) | (with_reducible refine bdrewN ?_ _) | (with_reducible refine bdrew ?_) | (with_reducible refine balloc0 ?_) | (with_reducible refine balloc ?_ ?_) | (with_reducible apply btrans0; rotate_left; with_reducible assumption) | (with_reducible apply btrans; rotate_left; with_reducible assumption) | exact Below.refl _ _ | assumption | (apply btrans0; rotate_left; assumption) | (apply btrans; rotate_left; assumption) | (simp; done) | omega | (simp; omega)))⟩)
      | (have HX : Hid (U = (D, 0)) := (by rw [HU.out]; refine Lib.hid (if_pos ?_); (try simp only [Bool.not_eq_true', Bool.not_eq_false', decide_eq_true_eq, decide_eq_false_iff_not, beq_iff_eq, beq_eq_false_iff_ne, bne_iff_ne, bne_eq_false_iff_eq, ne_eq, Bool.and_eq_true, Bool.or_eq_true, Bool.and_eq_false_imp, Bool.or_eq_false_iff] at *); refine ⟨?_, ?_, ?_, ?_⟩ <;> first | assumption | omega)
         refine bodyPost_ret (v := .tuple #[repV D, .int .i64 0]) (by simp [results, Tryd.results25, go_sem, World.cell?_setCell_same', k1, k2, k3, z1, z2, z3, repV]) rfl ?_
         rw [HX.out]
         exact ⟨rfl, (by repeat' (first | (with_reducible refine bset ?_ ?_) | (with_reducible exact Below.refl _ _) | (with_reducible assumption) | (with_reducible refine bdrewN ?_ _) | (with_reducible refine bdrew ?_) | (with_reducible refine balloc0 ?_) | (with_reducible refine balloc ?_ ?_) | (with_reducible apply btrans0; rotate_left; with_reducible assumption) | (with_reducible apply btrans; rotate_left; with_reducible assumption) | exact Below.refl _ _ | assumption | (apply btrans0; rotate_left; assumption) | (apply btrans; rotate_left; assumption) | (simp; done) | omega | (simp; omega)))⟩)
end Go.Proofs.YtcmkpnjbnjbegaaDoor
