/- Walks of layer 17 (fragment): Split, Pieces (the program's). -/
import Derived.Test.YtibfchdhppdccaaFj
set_option linter.unusedVariables false
set_option linter.unusedSimpArgs false
namespace Go.Proofs.Ytibfchdhppdccaa
open Go Go.RowKit Go.Shelf
attribute [local go_sem] B_getElem B_size B_app B_extract B_get B_toList

/-- a list of bundles and an error come back -/
def BunsEPost (l : List Bun) (E : Int) (w : World) (e : Ending) (w' : World) : Prop := ∃ v, e = .returned (.tuple #[v, .int .i64 E]) ∧ RBuns w' w'.heap.size v l ∧ Below w.heap.size w w'
def splitR (b : Bun) (m : Int) : List Bun × Int :=
  if chkE b ≠ 0 then ([], 1) else if m < 1 then ([], 2) else if (b.payload.length : Int) ≤ m then ([b], 0) else if cutE b ≠ 0 then ([], cutE b) else (partsOf b (sF m.toNat b.payload.length) (sK m.toNat b.payload.length), 0)
def piecesR (b : Bun) (n : Int) : List Bun × Int :=
  if chkE b ≠ 0 then ([], 1) else if n < 1 then ([], 2) else if n = 1 then ([b], 0) else if cutE b ≠ 0 then ([], cutE b) else if (b.payload.length : Int) < n then ([], 2) else (partsOf b (pF n.toNat b.payload.length) n.toNat, 0)

theorem RBuns.nil (w : World) (N : Nat) : RBuns w N (.slice none 0 0) [] := ⟨none, 0, rfl, Nat.le_refl _, by simp, fun _ => rfl, fun h => by simp at h⟩
theorem RBuns.one {w : World} {N g : Nat} {b : Bun} {u : Value} {t : TypeId} (h : w.heap[g]? = some (.cells (bunC b u).toArray t (0, 0))) (hg : g < N) (hr : RBlks w N u b.blocks) : RBuns w N (.slice (some ⟨g, 0, none⟩) 1 1) [b] :=
  ⟨_, 1, rfl, Nat.le_refl _, by simp [maxLen], (fun h => by cases h), fun _ => ⟨g, 0, rfl, hg, fun i x hx => by
    match i, hx with
    | 0, hx =>
      simp at hx
      subst hx
      refine ⟨u, fun k v hv => ?_, hr⟩
      rw [cellB h]
      simpa using hv⟩⟩

set_option maxHeartbeats 1000000 in
theorem split_any (b : Bun) (u : Value) (m : Int) (N : Nat) (w : World) (hN : N ≤ w.heap.size) (h : RBlks w N u b.blocks) (hf : Fits b) :
    Calls Try.prog 12 #[.agg (bunC b u).toArray, .int .i64 m] w (BunsEPost (splitR b m).1 (splitR b m).2 w) := by
  obtain ⟨E, hE⟩ : ∃ E, chkE b = E := ⟨_, rfl⟩
  obtain ⟨C, hC⟩ : ∃ E, cutE b = E := ⟨_, rfl⟩
  obtain ⟨ua, uc, rfl, _⟩ := id h
  have HR := Lib.hid h
  have HF := Lib.hid hf
  have HE := Lib.hid hE
  have HC := Lib.hid hC
  clear h hf
  by_cases z : E = 0
  case neg =>
    have z' : (E != 0) = true := by simpa using z
    have hr : splitR b m = ([], 1) := by unfold splitR; rw [hE, if_pos z]
    rw [hr]
    clear hE hC z hr
    go_enter Try.func12, Try.ntmps12
    simp only [bunC]
    go_wp2_with fail
    refine (check_any b _ _ (HR.out.below (C := w.heap.size) (by repeat' (first | (with_reducible refine bset ?_ ?_) | (with_reducible exact Below.refl _ _) | (with_reducible assumption) | (with_reducible refine bdrewN ?_ _) | (with_reducible refine bdrew ?_) | (with_reducible refine balloc0 ?_) | (with_reducible refine balloc ?_ ?_) | (with_reducible apply btrans0; rotate_left; with_reducible assumption) | (with_reducible apply btrans; rotate_left; with_reducible assumption) | exact Below.refl _ _ | assumption | (apply btrans0; rotate_left; assumption) | (apply btrans; rotate_left; assumption) | (simp; done) | omega | (simp; omega))) hN (by first | omega | (simp; done) | (simp; omega))) HF.out).mono ?_
    rintro e w1 ⟨rfl, hb1⟩
    rw [HE.out]
    go_wp2
    go_ret2
    exact ⟨_, rfl, RBuns.nil _ _, (by repeat' (first | (with_reducible refine bset ?_ ?_) | (with_reducible exact Below.refl _ _) | (with_reducible assumption) | (with_reducible refine bdrewN ?_ _) | (with_reducible refine bdrew ?_) | (with_reducible refine balloc0 ?_) | (with_reducible refine balloc ?_ ?_) | (with_reducible apply btrans0; rotate_left; with_reducible assumption) | (with_reducible apply btrans; rotate_left; with_reducible assumption) | exact Below.refl _ _ | assumption | (apply btrans0; rotate_left; assumption) | (apply btrans; rotate_left; assumption) | (simp; done) | omega | (simp; omega)))⟩
  subst z
  obtain ⟨v1, v2, v3, v4, v5, v6, v7, v8, _, _⟩ := valid_facts hE
  have HV := Lib.hid (valid_blocks hE)
  by_cases z1 : m < 1
  case pos =>
    have hr : splitR b m = ([], 2) := by unfold splitR; rw [hE, if_neg (by simp), if_pos z1]
    rw [hr]
    clear hE hC hr
    go_enter Try.func12, Try.ntmps12
    simp only [bunC]
    go_wp2_with fail
    refine (check_any b _ _ (HR.out.below (C := w.heap.size) (by repeat' (first | (with_reducible refine bset ?_ ?_) | (with_reducible exact Below.refl _ _) | (with_reducible assumption) | (with_reducible refine bdrewN ?_ _) | (with_reducible refine bdrew ?_) | (with_reducible refine balloc0 ?_) | (with_reducible refine balloc ?_ ?_) | (with_reducible apply btrans0; rotate_left; with_reducible assumption) | (with_reducible apply btrans; rotate_left; with_reducible assumption) | exact Below.refl _ _ | assumption | (apply btrans0; rotate_left; assumption) | (apply btrans; rotate_left; assumption) | (simp; done) | omega | (simp; omega))) hN (by first | omega | (simp; done) | (simp; omega))) HF.out).mono ?_
    rintro e w1 ⟨rfl, hb1⟩
    rw [HE.out]
    obtain ⟨k1, f1⟩ := bcell hb1
    have y1 : w.heap.size + 1 < w1.heap.size := by have := hb1.size; simp at this; omega
    have y0 : w.heap.size < w1.heap.size := by omega
    go_wp2
    go_ret2
    exact ⟨_, rfl, RBuns.nil _ _, (by repeat' (first | (with_reducible refine bset ?_ ?_) | (with_reducible exact Below.refl _ _) | (with_reducible assumption) | (with_reducible refine bdrewN ?_ _) | (with_reducible refine bdrew ?_) | (with_reducible refine balloc0 ?_) | (with_reducible refine balloc ?_ ?_) | (with_reducible apply btrans0; rotate_left; with_reducible assumption) | (with_reducible apply btrans; rotate_left; with_reducible assumption) | exact Below.refl _ _ | assumption | (apply btrans0; rotate_left; assumption) | (apply btrans; rotate_left; assumption) | (simp; done) | omega | (simp; omega)))⟩
  have z1' : 1 ≤ m := by omega
  by_cases z2 : (b.payload.length : Int) ≤ m
  case pos =>
    have hr : splitR b m = ([b], 0) := by unfold splitR; rw [hE, if_neg (by simp), if_neg z1, if_pos z2]
    rw [hr]
    clear hE hC hr z1
    go_enter Try.func12, Try.ntmps12
    simp only [bunC]
    go_wp2_with fail
    refine (check_any b _ _ (HR.out.below (C := w.heap.size) (by repeat' (first | (with_reducible refine bset ?_ ?_) | (with_reducible exact Below.refl _ _) | (with_reducible assumption) | (with_reducible refine bdrewN ?_ _) | (with_reducible refine bdrew ?_) | (with_reducible refine balloc0 ?_) | (with_reducible refine balloc ?_ ?_) | (with_reducible apply btrans0; rotate_left; with_reducible assumption) | (with_reducible apply btrans; rotate_left; with_reducible assumption) | exact Below.refl _ _ | assumption | (apply btrans0; rotate_left; assumption) | (apply btrans; rotate_left; assumption) | (simp; done) | omega | (simp; omega))) hN (by first | omega | (simp; done) | (simp; omega))) HF.out).mono ?_
    rintro e w1 ⟨rfl, hb1⟩
    rw [HE.out]
    obtain ⟨k1, f1⟩ := bcell hb1
    have y1 : w.heap.size + 1 < w1.heap.size := by have := hb1.size; simp at this; omega
    have y0 : w.heap.size < w1.heap.size := by omega
    go_wp2
    go_ret2
    have hB : Below w.heap.size w (w1.alloc (.cells (bunC b (.slice ua b.blocks.length uc)).toArray 28)) := (by repeat' (first | (with_reducible refine bset ?_ ?_) | (with_reducible exact Below.refl _ _) | (with_reducible assumption) | (with_reducible refine bdrewN ?_ _) | (with_reducible refine bdrew ?_) | (with_reducible refine balloc0 ?_) | (with_reducible refine balloc ?_ ?_) | (with_reducible apply btrans0; rotate_left; with_reducible assumption) | (with_reducible apply btrans; rotate_left; with_reducible assumption) | exact Below.refl _ _ | assumption | (apply btrans0; rotate_left; assumption) | (apply btrans; rotate_left; assumption) | (simp; done) | omega | (simp; omega)))
    exact ⟨_, rfl, RBuns.one (u := .slice ua b.blocks.length uc) heap_new (by simp) (HR.out.below (C := w.heap.size) hB hN (by have := hB.size; simp at this ⊢; omega)), hB⟩
  have z2' : m < (b.payload.length : Int) := by omega
  by_cases y : C = 0
  case neg =>
    have y' : (C != 0) = true := by simpa using y
    have hr : splitR b m = ([], C) := by unfold splitR; rw [hE, hC, if_neg (by simp), if_neg z1, if_neg z2, if_pos y]
    rw [hr]
    clear hE hC y hr z1 z2
    go_enter Try.func12, Try.ntmps12
    simp only [bunC]
    go_wp2_with fail
    refine (check_any b _ _ (HR.out.below (C := w.heap.size) (by repeat' (first | (with_reducible refine bset ?_ ?_) | (with_reducible exact Below.refl _ _) | (with_reducible assumption) | (with_reducible refine bdrewN ?_ _) | (with_reducible refine bdrew ?_) | (with_reducible refine balloc0 ?_) | (with_reducible refine balloc ?_ ?_) | (with_reducible apply btrans0; rotate_left; with_reducible assumption) | (with_reducible apply btrans; rotate_left; with_reducible assumption) | exact Below.refl _ _ | assumption | (apply btrans0; rotate_left; assumption) | (apply btrans; rotate_left; assumption) | (simp; done) | omega | (simp; omega))) hN (by first | omega | (simp; done) | (simp; omega))) HF.out).mono ?_
    rintro e w1 ⟨rfl, hb1⟩
    rw [HE.out]
    obtain ⟨k1, f1⟩ := bcell hb1
    have y1 : w.heap.size + 1 < w1.heap.size := by have := hb1.size; simp at this; omega
    have y0 : w.heap.size < w1.heap.size := by omega
    go_wp2_with fail
    refine (cuttable_any b _ _ v6 v7).mono ?_
    rintro e w2 ⟨rfl, hb2⟩
    rw [HC.out]
    go_wp2
    go_ret2
    exact ⟨_, rfl, RBuns.nil _ _, (by repeat' (first | (with_reducible refine bset ?_ ?_) | (with_reducible exact Below.refl _ _) | (with_reducible assumption) | (with_reducible refine bdrewN ?_ _) | (with_reducible refine bdrew ?_) | (with_reducible refine balloc0 ?_) | (with_reducible refine balloc ?_ ?_) | (with_reducible apply btrans0; rotate_left; with_reducible assumption) | (with_reducible apply btrans; rotate_left; with_reducible assumption) | exact Below.refl _ _ | assumption | (apply btrans0; rotate_left; assumption) | (apply btrans; rotate_left; assumption) | (simp; done) | omega | (simp; omega)))⟩
  subst y
  obtain ⟨m', rfl⟩ := Int.eq_ofNat_of_zero_le (show 0 ≤ m by omega)
  have hr : splitR b (m' : Int) = (partsOf b (sF m' b.payload.length) (sK m' b.payload.length), 0) := by unfold splitR; rw [hE, hC, if_neg (by simp), if_neg z1, if_neg z2, if_neg (by simp), Int.toNat_natCast]
  rw [hr]
  clear hE hC hr z1 z2
  have hkl := sK_le (m := m') (len := b.payload.length) (by omega)
  go_enter Try.func12, Try.ntmps12
  simp only [bunC]
  go_wp2_with fail
  refine (check_any b _ _ (HR.out.below (C := w.heap.size) (by repeat' (first | (with_reducible refine bset ?_ ?_) | (with_reducible exact Below.refl _ _) | (with_reducible assumption) | (with_reducible refine bdrewN ?_ _) | (with_reducible refine bdrew ?_) | (with_reducible refine balloc0 ?_) | (with_reducible refine balloc ?_ ?_) | (with_reducible apply btrans0; rotate_left; with_reducible assumption) | (with_reducible apply btrans; rotate_left; with_reducible assumption) | exact Below.refl _ _ | assumption | (apply btrans0; rotate_left; assumption) | (apply btrans; rotate_left; assumption) | (simp; done) | omega | (simp; omega))) hN (by first | omega | (simp; done) | (simp; omega))) HF.out).mono ?_
  rintro e w1 ⟨rfl, hb1⟩
  rw [HE.out]
  obtain ⟨k1, f1⟩ := bcell hb1
  have y1 : w.heap.size + 1 < w1.heap.size := by have := hb1.size; simp at this; omega
  have y0 : w.heap.size < w1.heap.size := by omega
  go_wp2_with fail
  refine (cuttable_any b _ _ v6 v7).mono ?_
  rintro e w2 ⟨rfl, hb2⟩
  rw [HC.out]
  obtain ⟨k2, f2⟩ := bcell hb2
  have y2 : w.heap.size + 1 < w2.heap.size := by have := hb2.size; omega
  have y3 : w.heap.size < w2.heap.size := by omega
  go_wp2_with fail
  have hB2 : Below w.heap.size w w2 := (by repeat' (first | (with_reducible refine bset ?_ ?_) | (with_reducible exact Below.refl _ _) | (with_reducible assumption) | (with_reducible refine bdrewN ?_ _) | (with_reducible refine bdrew ?_) | (with_reducible refine balloc0 ?_) | (with_reducible refine balloc ?_ ?_) | (with_reducible apply btrans0; rotate_left; with_reducible assumption) | (with_reducible apply btrans; rotate_left; with_reducible assumption) | exact Below.refl _ _ | assumption | (apply btrans0; rotate_left; assumption) | (apply btrans; rotate_left; assumption) | (simp; done) | omega | (simp; omega)))
  refine (divide_any b _ _ N _ (by omega) (HR.out.below (C := w.heap.size) hB2 hN (Nat.le_refl N)) _ (sF m' b.payload.length) (sK m' b.payload.length) rfl v1 (by omega) (by omega) (by omega) HV.out (by omega) ⟨_, _, _, rfl⟩
    (seqSplit _ b.off m' b.payload.length (w.heap.size + 1) (by omega) (by omega) (by omega) v1 (by omega) (by omega) (by rw [k2 _ _ (by omega), k1 _ _ (by simp)]; go_simp))).mono ?_
  rintro e w3 ⟨v3', rfl, hr3, hb3⟩
  go_wp2
  go_ret2
  exact ⟨_, rfl, hr3, (by repeat' (first | (with_reducible refine bset ?_ ?_) | (with_reducible exact Below.refl _ _) | (with_reducible assumption) | (with_reducible refine bdrewN ?_ _) | (with_reducible refine bdrew ?_) | (with_reducible refine balloc0 ?_) | (with_reducible refine balloc ?_ ?_) | (with_reducible apply btrans0; rotate_left; with_reducible assumption) | (with_reducible apply btrans; rotate_left; with_reducible assumption) | exact Below.refl _ _ | assumption | (apply btrans0; rotate_left; assumption) | (apply btrans; rotate_left; assumption) | (simp; done) | omega | (simp; omega)))⟩
end Go.Proofs.Ytibfchdhppdccaa
