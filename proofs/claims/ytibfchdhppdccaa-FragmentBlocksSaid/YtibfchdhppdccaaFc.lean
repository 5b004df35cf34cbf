/- Walks of layer 17 (fragment): span, cuttable, cut (the program's and the reference's). -/
import Derived.Test.YtibfchdhppdccaaCl
set_option linter.unusedVariables false
set_option linter.unusedSimpArgs false
namespace Go.Proofs.Ytibfchdhppdccaa
open Go Go.RowKit
attribute [local go_sem] B_getElem B_size B_app B_extract B_get B_toList

def cutS (b : Bun) (f t : Int) : Bun :=
  { b with tot := (if b.tot = 0 then (b.payload.length : Int) else b.tot), off := f, payload := (b.payload.drop (f - b.off).toNat).take (t - f).toNat, blocks := (if 0 < f then b.blocks.filter keepC else b.blocks) }
/-- a bundle comes back -/
def BunPost (N : Nat) (b : Bun) (w : World) (e : Ending) (w' : World) : Prop := ∃ u, e = .returned (.agg (bunC b u).toArray) ∧ RBlksD w' (OldNew N w w') u b.blocks ∧ Below w.heap.size w w'

set_option maxHeartbeats 1000000 in
theorem span_any (b : Bun) (u : Value) (w : World) (h1 : 0 ≤ b.off) (h2 : b.off ≤ 100000) (h3 : b.payload.length ≤ 100000) :
    Calls Try.prog 43 #[.agg (bunC b u).toArray] w fun e w' => e = .returned (.agg #[.int .i64 b.off, .int .i64 (b.off + b.payload.length)]) ∧ Below w.heap.size w w' := by
  go_enter Try.func43, Try.ntmps43
  simp only [bunC]
  go_wp2
  refine bodyPost_ret (v := .agg #[.int .i64 b.off, .int .i64 (b.off + b.payload.length)]) (by simp [results, Try.results43, go_sem]) rfl ?_
  exact ⟨rfl, (by repeat' (first | (with_reducible refine bset ?_ ?_) | (with_reducible exact Below.refl _ _) | (with_reducible assumption) | (with_reducible refine bdrewN ?_ _) | (with_reducible refine bdrew ?_) | (with_reducible refine balloc0 ?_) | (with_reducible refine balloc ?_ ?_) | (with_reducible apply btrans0; rotate_left; with_reducible assumption) | (with_reducible apply btrans; rotate_left; with_reducible assumption) | exact Below.refl _ _ | assumption | (apply btrans0; rotate_left; assumption) | (apply btrans; rotate_left; assumption) | (simp; done) | omega | (simp; omega)))⟩
set_option maxHeartbeats 1000000 in
theorem rspan_any (b : Bun) (u : Value) (w : World) (h1 : 0 ≤ b.off) (h2 : b.off ≤ 100000) (h3 : b.payload.length ≤ 100000) :
    Calls Try.prog 34 #[.agg (bunC b u).toArray] w fun e w' => e = .returned (.agg #[.int .i64 b.off, .int .i64 (b.off + b.payload.length)]) ∧ Below w.heap.size w w' := by
  go_enter Try.func34, Try.ntmps34
  simp only [bunC]
  go_wp2
  refine bodyPost_ret (v := .agg #[.int .i64 b.off, .int .i64 (b.off + b.payload.length)]) (by simp [results, Try.results34, go_sem]) rfl ?_
  exact ⟨rfl, (by repeat' (first | (with_reducible refine bset ?_ ?_) | (with_reducible exact Below.refl _ _) | (with_reducible assumption) | (with_reducible refine bdrewN ?_ _) | (with_reducible refine bdrew ?_) | (with_reducible refine balloc0 ?_) | (with_reducible refine balloc ?_ ?_) | (with_reducible apply btrans0; rotate_left; with_reducible assumption) | (with_reducible apply btrans; rotate_left; with_reducible assumption) | exact Below.refl _ _ | assumption | (apply btrans0; rotate_left; assumption) | (apply btrans; rotate_left; assumption) | (simp; done) | omega | (simp; omega)))⟩

/-- why a valid bundle cannot be cut -/
def cutE (b : Bun) : Int := if hasF b.flags 2 = true then 19 else if b.payload = [] then 20 else 0
set_option maxHeartbeats 1000000 in
theorem cuttable_any (b : Bun) (u : Value) (w : World) (h1 : 0 ≤ b.flags) (h2 : b.flags ≤ 127) :
    Calls Try.prog 29 #[.agg (bunC b u).toArray] w fun e w' => e = .returned (.int .i64 (cutE b)) ∧ Below w.heap.size w w' := by
  obtain ⟨_, _, a3⟩ := and_flag b.flags h1 h2
  obtain ⟨E, hE⟩ : ∃ E, cutE b = E := ⟨_, rfl⟩
  have HE := Lib.hid hE
  rw [hE]
  obtain ⟨r, hr⟩ : ∃ p, hasF b.flags 2 = p := ⟨_, rfl⟩
  rw [hr] at a3
  have HR := Lib.hid hr
  clear hE hr
  go_enter Try.func29, Try.ntmps29
  simp only [bunC]
  go_wp2
  all_goals
    go_ret
    refine ⟨ret_int ?_, (by repeat' (first | (with_reducible refine bset ?_ ?_) | (with_reducible exact Below.refl _ _) | (with_reducible assumption) | (with_reducible refine bdrewN ?_ _) | (with_reducible refine bdrew ?_) | (with_reducible refine balloc0 ?_) | (with_reducible refine balloc ?_ ?_) | (with_reducible apply btrans0; rotate_left; with_reducible assumption) | (with_reducible apply btrans; rotate_left; with_reducible assumption) | exact Below.refl _ _ | assumption | (apply btrans0; rotate_left; assumption) | (apply btrans; rotate_left; assumption) | (simp; done) | omega | (simp; omega)))⟩
    rw [← HE.out]
    unfold cutE
    rw [HR.out]
    first | (simp [*]; done) | (simp_all; done) | (rename_i hz; simp at hz; simp [hz, *])
set_option maxHeartbeats 1000000 in
theorem possible_any (b : Bun) (u : Value) (w : World) (h1 : 0 ≤ b.flags) (h2 : b.flags ≤ 127) (h3 : b.payload.length ≤ 100000) :
    Calls Try.prog 33 #[.agg (bunC b u).toArray] w fun e w' => e = .returned (.int .i64 (cutE b)) ∧ Below w.heap.size w w' := by
  obtain ⟨E, hE⟩ : ∃ E, cutE b = E := ⟨_, rfl⟩
  have HE := Lib.hid hE
  rw [hE]
  obtain ⟨r, hr⟩ : ∃ p, hasF b.flags 2 = p := ⟨_, rfl⟩
  have HR := Lib.hid hr
  unfold hasF at hr
  clear hE
  go_enter Try.func33, Try.ntmps33
  simp only [bunC]
  go_wp2
  all_goals
    go_ret
    refine ⟨ret_int ?_, (by repeat' (first | (with_reducible refine bset ?_ ?_) | (with_reducible exact Below.refl _ _) | (with_reducible assumption) | (with_reducible refine bdrewN ?_ _) | (with_reducible refine bdrew ?_) | (with_reducible refine balloc0 ?_) | (with_reducible refine balloc ?_ ?_) | (with_reducible apply btrans0; rotate_left; with_reducible assumption) | (with_reducible apply btrans; rotate_left; with_reducible assumption) | exact Below.refl _ _ | assumption | (apply btrans0; rotate_left; assumption) | (apply btrans; rotate_left; assumption) | (simp; done) | omega | (simp; omega)))⟩
    rw [← HE.out]
    unfold cutE
    rw [HR.out]
    first | (simp [*]; done) | (simp_all; done) | (rename_i hz; simp at hz; simp [hz, *])

set_option maxRecDepth 100000 in
set_option maxHeartbeats 1000000 in
theorem cut_any (b : Bun) (u : Value) (f t : Int) (N : Nat) (w : World) (hN : N ≤ w.heap.size) (h : RBlks w N u b.blocks) (h0 : 0 ≤ b.off) (h1 : b.off ≤ f) (h2 : f ≤ t) (h3 : t ≤ b.off + b.payload.length) (h4 : b.off ≤ 100000) (h5 : b.payload.length ≤ 100000)
    (hf : ∀ x ∈ b.blocks, 0 ≤ x.flags ∧ x.flags ≤ 15) (hl : b.blocks.length ≤ 1000) :
    Calls Try.prog 44 #[.agg (bunC b u).toArray, .int .i64 f, .int .i64 t] w (BunPost N (cutS b f t) w) := by
  obtain ⟨i, hi⟩ : ∃ i : Nat, f - b.off = i := ⟨(f - b.off).toNat, by omega⟩
  obtain ⟨j, hj⟩ : ∃ j : Nat, t - b.off = j := ⟨(t - b.off).toNat, by omega⟩
  have i1 : i ≤ j := by omega
  have i2 : j ≤ b.payload.length := by omega
  have hP : (cutS b f t).payload = (b.payload.drop i).take (j - i) := by
    unfold cutS
    show (b.payload.drop (f - b.off).toNat).take (t - f).toNat = _
    rw [show (f - b.off).toNat = i by omega, show (t - f).toNat = j - i by omega]
  have HP := Lib.hid hP
  obtain ⟨ua, uc, rfl, _⟩ := id h
  have HR := Lib.hid h
  have HF := Lib.hid hf
  clear hP h hf
  have i3 : (0 : Int) ≤ (i : Int) := by omega
  have i4 : (i : Int) ≤ (j : Int) := by omega
  have i5 : (j : Int) ≤ (b.payload.length : Int) := by omega
  have HT : Hid ((cutS b f t).tot = if b.tot = 0 then (b.payload.length : Int) else b.tot) := Lib.hid rfl
  by_cases zf : 0 < f
  · have HB : Hid ((cutS b f t).blocks = b.blocks.filter keepC) := Lib.hid (by unfold cutS; simp [zf])
    by_cases z : b.tot = 0
    · go_enter Try.func44, Try.ntmps44
      simp only [bunC]
      go_wp2_with fail
      refine (clone_any b.blocks _ _ (HR.out.below (C := w.heap.size) (by repeat' (first | (with_reducible refine bset ?_ ?_) | (with_reducible exact Below.refl _ _) | (with_reducible assumption) | (with_reducible refine bdrewN ?_ _) | (with_reducible refine bdrew ?_) | (with_reducible refine balloc0 ?_) | (with_reducible refine balloc ?_ ?_) | (with_reducible apply btrans0; rotate_left; with_reducible assumption) | (with_reducible apply btrans; rotate_left; with_reducible assumption) | exact Below.refl _ _ | assumption | (apply btrans0; rotate_left; assumption) | (apply btrans; rotate_left; assumption) | (simp; done) | omega | (simp; omega))) hN (by first | omega | (simp; done) | (simp; omega))) hl).mono ?_
      rintro e w1 ⟨v1, rfl, hb1, ho1⟩
      obtain ⟨k1, f1⟩ := bcell hb1
      have z1 : w.heap.size + 1 < w1.heap.size := by have := hb1.size; simp at this; omega
      have z1' : w.heap.size < w1.heap.size := by omega
      go_wp2_with fail
      refine (delete_own b.blocks v1 _ _ hb1.size ho1 HF.out hl).mono ?_
      rintro e w2 ⟨v2, rfl, hr2, hb2, hfr2⟩
      obtain ⟨va, vc, rfl, _⟩ := id hr2
      have HR2 := Lib.hid hr2
      have k2 : ∀ b o, b < w.heap.size + 1 + 1 → w2.cell? ⟨b, o, none⟩ = w1.cell? ⟨b, o, none⟩ := fun b o h => hb2.cell (p := ⟨b, o, none⟩) (by simpa using h)
      have f2 : ∀ b o, b < w.heap.size + 1 + 1 → w2.frozen? ⟨b, o, none⟩ = w1.frozen? ⟨b, o, none⟩ := fun b o h => hb2.frozen (p := ⟨b, o, none⟩) (by simpa using h)
      have z2 : w.heap.size + 1 < w2.heap.size := by have := hb2.size; omega
      have z2' : w.heap.size < w2.heap.size := by omega
      have s2 : ∀ X : Value, (w2.setCell ⟨w.heap.size, 10, none⟩ X).cell? ⟨w.heap.size, 10, none⟩ = some X := fun X => World.cell?_setCell_same' _ _ _ (by rw [k2 _ _ (by omega), k1 _ _ (by simp; omega)]; go_simp)
      go_wp2
      refine bodyPost_ret (v := .agg #[.int .i64 b.src, .int .i64 b.crt, .int .i64 b.seq, .int .i64 f, .int .i64 (b.payload.length : Int), .int .i64 b.dk, .int .i64 b.dn, .int .i64 b.life, .int .i64 b.prio, .int .i64 b.flags, .slice va (b.blocks.filter keepC).length vc, .string (B ((b.payload.drop i).take (j - i)))]) (by simp [results, Try.results44, go_sem, World.cell?_setCell_same', k1, k2, z1, z1']) rfl ?_
      refine ⟨.slice va (b.blocks.filter keepC).length vc, ?_, ?_, (by repeat' (first | (with_reducible refine bset ?_ ?_) | (with_reducible exact Below.refl _ _) | (with_reducible assumption) | (with_reducible refine bdrewN ?_ _) | (with_reducible refine bdrew ?_) | (with_reducible refine balloc0 ?_) | (with_reducible refine balloc ?_ ?_) | (with_reducible apply btrans0; rotate_left; with_reducible assumption) | (with_reducible apply btrans; rotate_left; with_reducible assumption) | exact Below.refl _ _ | assumption | (apply btrans0; rotate_left; assumption) | (apply btrans; rotate_left; assumption) | (simp; done) | omega | (simp; omega)))⟩
      · unfold bunC
        rw [HP.out, HT.out, if_pos z]
        rfl
      · rw [HB.out]
        refine RBlksD.new_ HR2.out hfr2 (fun b o hb _ => ?_) (by simp; omega) (by simp)
        simp at hb
        simp (disch := (simp; omega)) only [World.cell?_setCell_far]
    · have z' : (b.tot == 0) = false := beq_eq_false_iff_ne.2 z
      go_enter Try.func44, Try.ntmps44
      simp only [bunC]
      go_wp2_with fail
      refine (clone_any b.blocks _ _ (HR.out.below (C := w.heap.size) (by repeat' (first | (with_reducible refine bset ?_ ?_) | (with_reducible exact Below.refl _ _) | (with_reducible assumption) | (with_reducible refine bdrewN ?_ _) | (with_reducible refine bdrew ?_) | (with_reducible refine balloc0 ?_) | (with_reducible refine balloc ?_ ?_) | (with_reducible apply btrans0; rotate_left; with_reducible assumption) | (with_reducible apply btrans; rotate_left; with_reducible assumption) | exact Below.refl _ _ | assumption | (apply btrans0; rotate_left; assumption) | (apply btrans; rotate_left; assumption) | (simp; done) | omega | (simp; omega))) hN (by first | omega | (simp; done) | (simp; omega))) hl).mono ?_
      rintro e w1 ⟨v1, rfl, hb1, ho1⟩
      obtain ⟨k1, f1⟩ := bcell hb1
      have z1 : w.heap.size + 1 < w1.heap.size := by have := hb1.size; simp at this; omega
      have z1' : w.heap.size < w1.heap.size := by omega
      go_wp2_with fail
      refine (delete_own b.blocks v1 _ _ hb1.size ho1 HF.out hl).mono ?_
      rintro e w2 ⟨v2, rfl, hr2, hb2, hfr2⟩
      obtain ⟨va, vc, rfl, _⟩ := id hr2
      have HR2 := Lib.hid hr2
      have k2 : ∀ b o, b < w.heap.size + 1 + 1 → w2.cell? ⟨b, o, none⟩ = w1.cell? ⟨b, o, none⟩ := fun b o h => hb2.cell (p := ⟨b, o, none⟩) (by simpa using h)
      have f2 : ∀ b o, b < w.heap.size + 1 + 1 → w2.frozen? ⟨b, o, none⟩ = w1.frozen? ⟨b, o, none⟩ := fun b o h => hb2.frozen (p := ⟨b, o, none⟩) (by simpa using h)
      have z2 : w.heap.size + 1 < w2.heap.size := by have := hb2.size; omega
      have z2' : w.heap.size < w2.heap.size := by omega
      have s2 : ∀ X : Value, (w2.setCell ⟨w.heap.size, 10, none⟩ X).cell? ⟨w.heap.size, 10, none⟩ = some X := fun X => World.cell?_setCell_same' _ _ _ (by rw [k2 _ _ (by omega), k1 _ _ (by simp; omega)]; go_simp)
      go_wp2
      refine bodyPost_ret (v := .agg #[.int .i64 b.src, .int .i64 b.crt, .int .i64 b.seq, .int .i64 f, .int .i64 b.tot, .int .i64 b.dk, .int .i64 b.dn, .int .i64 b.life, .int .i64 b.prio, .int .i64 b.flags, .slice va (b.blocks.filter keepC).length vc, .string (B ((b.payload.drop i).take (j - i)))]) (by simp [results, Try.results44, go_sem, World.cell?_setCell_same', k1, k2, z1, z1']) rfl ?_
      refine ⟨.slice va (b.blocks.filter keepC).length vc, ?_, ?_, (by repeat' (first | (with_reducible refine bset ?_ ?_) | (with_reducible exact Below.refl _ _) | (with_reducible assumption) | (with_reducible refine bdrewN ?_ _) | (with_reducible refine bdrew ?_) | (with_reducible refine balloc0 ?_) | (with_reducible refine balloc ?_ ?_) | (with_reducible apply btrans0; rotate_left; with_reducible assumption) | (with_reducible apply btrans; rotate_left; with_reducible assumption) | exact Below.refl _ _ | assumption | (apply btrans0; rotate_left; assumption) | (apply btrans; rotate_left; assumption) | (simp; done) | omega | (simp; omega)))⟩
      · unfold bunC
        rw [HP.out, HT.out, if_neg z]
        rfl
      · rw [HB.out]
        refine RBlksD.new_ HR2.out hfr2 (fun b o hb _ => ?_) (by simp; omega) (by simp)
        simp at hb
        simp (disch := (simp; omega)) only [World.cell?_setCell_far]
  · have HB : Hid ((cutS b f t).blocks = b.blocks) := Lib.hid (by unfold cutS; simp [zf])
    have zf' : f ≤ 0 := by omega
    by_cases z : b.tot = 0
    · go_enter Try.func44, Try.ntmps44
      simp only [bunC]
      go_wp2
      refine bodyPost_ret (v := .agg #[.int .i64 b.src, .int .i64 b.crt, .int .i64 b.seq, .int .i64 f, .int .i64 (b.payload.length : Int), .int .i64 b.dk, .int .i64 b.dn, .int .i64 b.life, .int .i64 b.prio, .int .i64 b.flags, .slice ua b.blocks.length uc, .string (B ((b.payload.drop i).take (j - i)))]) (by simp [results, Try.results44, go_sem]) rfl ?_
      refine ⟨.slice ua b.blocks.length uc, ?_, ?_, (by repeat' (first | (with_reducible refine bset ?_ ?_) | (with_reducible exact Below.refl _ _) | (with_reducible assumption) | (with_reducible refine bdrewN ?_ _) | (with_reducible refine bdrew ?_) | (with_reducible refine balloc0 ?_) | (with_reducible refine balloc ?_ ?_) | (with_reducible apply btrans0; rotate_left; with_reducible assumption) | (with_reducible apply btrans; rotate_left; with_reducible assumption) | exact Below.refl _ _ | assumption | (apply btrans0; rotate_left; assumption) | (apply btrans; rotate_left; assumption) | (simp; done) | omega | (simp; omega)))⟩
      · unfold bunC
        rw [HP.out, HT.out, if_pos z]
        rfl
      · rw [HB.out]
        exact RBlksD.old HR.out (C := w.heap.size) (by repeat' (first | (with_reducible refine bset ?_ ?_) | (with_reducible exact Below.refl _ _) | (with_reducible assumption) | (with_reducible refine bdrewN ?_ _) | (with_reducible refine bdrew ?_) | (with_reducible refine balloc0 ?_) | (with_reducible refine balloc ?_ ?_) | (with_reducible apply btrans0; rotate_left; with_reducible assumption) | (with_reducible apply btrans; rotate_left; with_reducible assumption) | exact Below.refl _ _ | assumption | (apply btrans0; rotate_left; assumption) | (apply btrans; rotate_left; assumption) | (simp; done) | omega | (simp; omega))) hN _
    · have z' : (b.tot == 0) = false := beq_eq_false_iff_ne.2 z
      go_enter Try.func44, Try.ntmps44
      simp only [bunC]
      go_wp2
      refine bodyPost_ret (v := .agg #[.int .i64 b.src, .int .i64 b.crt, .int .i64 b.seq, .int .i64 f, .int .i64 b.tot, .int .i64 b.dk, .int .i64 b.dn, .int .i64 b.life, .int .i64 b.prio, .int .i64 b.flags, .slice ua b.blocks.length uc, .string (B ((b.payload.drop i).take (j - i)))]) (by simp [results, Try.results44, go_sem]) rfl ?_
      refine ⟨.slice ua b.blocks.length uc, ?_, ?_, (by repeat' (first | (with_reducible refine bset ?_ ?_) | (with_reducible exact Below.refl _ _) | (with_reducible assumption) | (with_reducible refine bdrewN ?_ _) | (with_reducible refine bdrew ?_) | (with_reducible refine balloc0 ?_) | (with_reducible refine balloc ?_ ?_) | (with_reducible apply btrans0; rotate_left; with_reducible assumption) | (with_reducible apply btrans; rotate_left; with_reducible assumption) | exact Below.refl _ _ | assumption | (apply btrans0; rotate_left; assumption) | (apply btrans; rotate_left; assumption) | (simp; done) | omega | (simp; omega)))⟩
      · unfold bunC
        rw [HP.out, HT.out, if_neg z]
        rfl
      · rw [HB.out]
        exact RBlksD.old HR.out (C := w.heap.size) (by repeat' (first | (with_reducible refine bset ?_ ?_) | (with_reducible exact Below.refl _ _) | (with_reducible assumption) | (with_reducible refine bdrewN ?_ _) | (with_reducible refine bdrew ?_) | (with_reducible refine balloc0 ?_) | (with_reducible refine balloc ?_ ?_) | (with_reducible apply btrans0; rotate_left; with_reducible assumption) | (with_reducible apply btrans; rotate_left; with_reducible assumption) | exact Below.refl _ _ | assumption | (apply btrans0; rotate_left; assumption) | (apply btrans; rotate_left; assumption) | (simp; done) | omega | (simp; omega))) hN _
end Go.Proofs.Ytibfchdhppdccaa
