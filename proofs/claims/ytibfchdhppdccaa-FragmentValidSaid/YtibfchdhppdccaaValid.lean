/-
  Proved: mailboatlaw17.FragmentValid returns true for every input, and leaves its arguments as they were. No condition.
-/
import Derived.Test.YtibfchdhppdccaaRows
import Derived.Test.YtibfchdhppdccaaGo
import Derived.Test.YtibfchdhppdccaaGq
import Derived.Test.YtibfchdhppdccaaFe
import Derived.Test.YtibfchdhppdccaaQd
import Derived.Test.YtibfchdhppdccaaR
import Derived.Test.YtibfchdhppdccaaL
set_option linter.unusedVariables false
set_option linter.unusedSimpArgs false
namespace Go.Proofs.Ytibfchdhppdccaa.fragmentValid
open Go Go.ChangeShapes Go.WideShapes Go.ChangeAt Go.RowKit Go.Joins Go.Proofs.Ytibfchdhppdccaa
attribute [local go_sem] B_getElem B_size B_app B_extract B_get B_toList
attribute [local go_sem] bunC
attribute [local go_sem ↓] eqBlk eqId eqEnd

theorem own : ownKnob Try.prog.godebug = none := by kernel_rfl

set_option maxRecDepth 100000 in
set_option maxHeartbeats 1600000 in
theorem walk (b : Bun) (u : Value) (n : Int) (p : Bool) (w : World) (h : RBlks w w.heap.size u b.blocks) (hf : Fits b) :
    Calls Try.prog 6 #[.agg (bunC b u).toArray, .int .i64 n, .bool p] w (Says w) := by
  obtain ⟨⟨l, E⟩, hl⟩ : ∃ x, partsR b n p = x := ⟨_, rfl⟩
  have HL := Lib.hid hl
  clear hl
  obtain ⟨ua, uc, rfl, _⟩ := id h
  have HR := Lib.hid h
  have HF := Lib.hid hf
  clear h hf
  go_enter Try.func6, Try.ntmps6
  simp only [bunC]
  go_wp2_with fail
  refine (lawGreat_any b _ _ (HR.out.below (C := w.heap.size) (by repeat' (first | (with_reducible refine bset ?_ ?_) | (with_reducible exact Below.refl _ _) | (with_reducible assumption) | (with_reducible refine bdrewN ?_ _) | (with_reducible refine bdrew ?_) | (with_reducible refine balloc0 ?_) | (with_reducible refine balloc ?_ ?_) | (with_reducible apply btrans0; rotate_left; with_reducible assumption) | (with_reducible apply btrans; rotate_left; with_reducible assumption) | exact Below.refl _ _ | assumption | (apply btrans0; rotate_left; assumption) | (apply btrans; rotate_left; assumption) | (simp; done) | omega | (simp; omega))) (Nat.le_refl _) (by simp)) HF.out).mono ?_
  rintro e w1 ⟨g, rfl, hb1⟩
  obtain ⟨k1, f1⟩ := bcell hb1
  have z1 : w.heap.size < w1.heap.size := by have := hb1.size; simp at this; omega
  cases g
  case true =>
    go_wp2_with fail
    refine (awake_any _).mono ?_
    rintro e w2 ⟨rfl, hb2⟩
    go_wp2
    go_ret
    exact ⟨rfl, (by repeat' (first | (with_reducible refine bset ?_ ?_) | (with_reducible exact Below.refl _ _) | (with_reducible assumption) | (with_reducible refine bdrewN ?_ _) | (with_reducible refine bdrew ?_) | (with_reducible refine balloc0 ?_) | (with_reducible refine balloc ?_ ?_) | (with_reducible apply btrans0; rotate_left; with_reducible assumption) | (with_reducible apply btrans; rotate_left; with_reducible assumption) | exact Below.refl _ _ | assumption | (apply btrans0; rotate_left; assumption) | (apply btrans; rotate_left; assumption) | (simp; done) | omega | (simp; omega)))⟩
  have hB1 : Below w.heap.size w w1 := (by repeat' (first | (with_reducible refine bset ?_ ?_) | (with_reducible exact Below.refl _ _) | (with_reducible assumption) | (with_reducible refine bdrewN ?_ _) | (with_reducible refine bdrew ?_) | (with_reducible refine balloc0 ?_) | (with_reducible refine balloc ?_ ?_) | (with_reducible apply btrans0; rotate_left; with_reducible assumption) | (with_reducible apply btrans; rotate_left; with_reducible assumption) | exact Below.refl _ _ | assumption | (apply btrans0; rotate_left; assumption) | (apply btrans; rotate_left; assumption) | (simp; done) | omega | (simp; omega)))
  have G1 : w1.heap[w.heap.size]? = some (.cells (bunC b (.slice ua b.blocks.length uc)).toArray 28 (0, 0)) := (hb1.block _ (by simp)).trans heap_new
  clear k1 f1
  have ca := fun o => cellB G1 o
  simp only [bunC] at ca
  go_wp2_with fail
  clear ca
  refine (parts_any b _ n p w.heap.size _ (by omega) (HR.out.below (C := w.heap.size) hB1 (Nat.le_refl _) (Nat.le_refl _)) HF.out).mono ?_
  rw [HL.out]
  rintro e w2 ⟨a2, c2, rfl, r2, hb2⟩
  have l2 : w1.heap.size ≤ w2.heap.size := hb2.size
  have z2 : w.heap.size < w2.heap.size := by omega
  have hB2 : Below w.heap.size w w2 := (by repeat' (first | (with_reducible refine bset ?_ ?_) | (with_reducible exact Below.refl _ _) | (with_reducible assumption) | (with_reducible refine bdrewN ?_ _) | (with_reducible refine bdrew ?_) | (with_reducible refine balloc0 ?_) | (with_reducible refine balloc ?_ ?_) | (with_reducible apply btrans0; rotate_left; with_reducible assumption) | (with_reducible apply btrans; rotate_left; with_reducible assumption) | exact Below.refl _ _ | assumption | (apply btrans0; rotate_left; assumption) | (apply btrans; rotate_left; assumption) | (simp; done) | omega | (simp; omega)))
  have G2 := (hb2.block w.heap.size (by omega)).trans G1
  clear hb2 hb1 hB1 G1
  by_cases hE : E = 0
  case neg =>
    have hE' : decide (E = 0) = false := by simpa using hE
    have hl0 : l = [] := by
      have := parts_cases b n p
      rw [HL.out] at this
      rcases this with ⟨_, h⟩ | ⟨h, _⟩
      · exact h
      · exact absurd h hE
    subst hl0
    simp only [hE', List.length_nil]
    go_wp2_with fail
    refine (awake_any _).mono ?_
    rintro e w3 ⟨rfl, hb3⟩
    go_wp2
    go_ret
    exact ⟨rfl, (by repeat' (first | (with_reducible refine bset ?_ ?_) | (with_reducible exact Below.refl _ _) | (with_reducible assumption) | (with_reducible refine bdrewN ?_ _) | (with_reducible refine bdrew ?_) | (with_reducible refine balloc0 ?_) | (with_reducible refine balloc ?_ ?_) | (with_reducible apply btrans0; rotate_left; with_reducible assumption) | (with_reducible apply btrans; rotate_left; with_reducible assumption) | exact Below.refl _ _ | assumption | (apply btrans0; rotate_left; assumption) | (apply btrans; rotate_left; assumption) | (simp; done) | omega | (simp; omega)))⟩
  subst hE
  simp only [decide_true]
  obtain ⟨hne, heach⟩ := parts_valid (b := b) (n := n) (p := p) (by rw [HL.out])
  rw [HL.out] at hne heach
  simp only at hne heach
  have hpos : 0 < l.length := List.length_pos_iff.2 hne
  have HC := Lib.hid heach
  obtain ⟨a', c', e', h1, h2, h3, h4⟩ := r2
  injection e' with e1 _ e2
  subst e1 e2
  have H4 := Lib.hid h4
  unfold maxLen at h2
  have hlen : l.length ≤ 9223372036854775807 := by have h1' : l.length ≤ c2 := h1; omega
  clear h3 h4 hne heach
  go_wp2
  go_loopw [31] (fun i wr => ∃ (k : Nat), k ≤ l.length ∧ i = .int .i64 k ∧ Below w2.heap.size w2 wr) (fun i _ => l.length - (intOf i).toNat)
  case atStart => exact ⟨0, Nat.zero_le _, rfl, Below.refl _ _⟩
  case round =>
    obtain ⟨k, hk, rfl, hB⟩ := hrel
    have NW := (hB.block w.heap.size (by omega)).trans G2
    have bW : w.heap.size < wr.heap.size := by have := hB.size; omega
    by_cases hlt : k < l.length
    · obtain ⟨bb, o, rfl, hbn, hcell⟩ := H4.out (by omega)
      obtain ⟨x, hx⟩ : ∃ x, l[k]? = some x := ⟨_, List.getElem?_eq_getElem hlt⟩
      obtain ⟨u1, c1, r1⟩ := (hcell k x hx).keep (M := wr.heap.size) hbn (fun b o hb => hB.cell (p := ⟨b, o, none⟩) hb) (by have := hB.size; omega)
      obtain ⟨ua1, uc1, rfl, _⟩ := id r1
      obtain ⟨xv, x1, x2, x3, x4, x5, x6, x7, x8, xI⟩ := HC.out x (List.mem_of_getElem? hx)
      have XF := Lib.hid (chk_fits xv)
      have RX := Lib.hid r1
      have XV := Lib.hid xv
      have XI := Lib.hid xI
      have XX : Hid (∃ o' t' bl pl, x = { b with off := o', tot := t', blocks := bl, payload := pl }) := Lib.hid ⟨x.off, x.tot, x.blocks, x.payload, by cases x; simp only at x1 x2 x3 x4 x5 x6 x7 x8; subst x1 x2 x3 x4 x5 x6 x7 x8; rfl⟩
      clear x1 x2 x3 x4 x5 x6 x7 x8
      have k0 : (0 : Int) ≤ (k : Int) := by omega
      have k1' : (k : Int) < (l.length : Int) := by omega
      have q0 : wr.cell? ⟨bb, o + k * 12, none⟩ = some (.int .i64 x.src) := c1 0 _ rfl
      have q1 : wr.cell? ⟨bb, o + k * 12 + 1, none⟩ = some (.int .i64 x.crt) := c1 1 _ rfl
      have q2 : wr.cell? ⟨bb, o + k * 12 + 2, none⟩ = some (.int .i64 x.seq) := c1 2 _ rfl
      have q3 : wr.cell? ⟨bb, o + k * 12 + 3, none⟩ = some (.int .i64 x.off) := c1 3 _ rfl
      have q4 : wr.cell? ⟨bb, o + k * 12 + 4, none⟩ = some (.int .i64 x.tot) := c1 4 _ rfl
      have q5 : wr.cell? ⟨bb, o + k * 12 + 5, none⟩ = some (.int .i64 x.dk) := c1 5 _ rfl
      have q6 : wr.cell? ⟨bb, o + k * 12 + 6, none⟩ = some (.int .i64 x.dn) := c1 6 _ rfl
      have q7 : wr.cell? ⟨bb, o + k * 12 + 7, none⟩ = some (.int .i64 x.life) := c1 7 _ rfl
      have q8 : wr.cell? ⟨bb, o + k * 12 + 8, none⟩ = some (.int .i64 x.prio) := c1 8 _ rfl
      have q9 : wr.cell? ⟨bb, o + k * 12 + 9, none⟩ = some (.int .i64 x.flags) := c1 9 _ rfl
      have q10 : wr.cell? ⟨bb, o + k * 12 + 10, none⟩ = some (.slice ua1 x.blocks.length uc1) := c1 10 _ rfl
      have q11 : wr.cell? ⟨bb, o + k * 12 + 11, none⟩ = some (.string (B x.payload)) := c1 11 _ rfl
      clear hcell hx c1 r1 xv xI
      go_wp2
      have HB : Below w.heap.size w (wr.alloc (.cells (bunC x (.slice ua1 x.blocks.length uc1)).toArray 28)) := (by repeat' (first | (with_reducible refine bset ?_ ?_) | (with_reducible exact Below.refl _ _) | (with_reducible assumption) | (with_reducible refine bdrewN ?_ _) | (with_reducible refine bdrew ?_) | (with_reducible refine balloc0 ?_) | (with_reducible refine balloc ?_ ?_) | (with_reducible apply btrans0; rotate_left; with_reducible assumption) | (with_reducible apply btrans; rotate_left; with_reducible assumption) | exact Below.refl _ _ | assumption | (apply btrans0; rotate_left; assumption) | (apply btrans; rotate_left; assumption) | (simp; done) | omega | (simp; omega)))
      have HB2 : Below w2.heap.size w2 (wr.alloc (.cells (bunC x (.slice ua1 x.blocks.length uc1)).toArray 28)) := by clear HB; exact (by repeat' (first | (with_reducible refine bset ?_ ?_) | (with_reducible exact Below.refl _ _) | (with_reducible assumption) | (with_reducible refine bdrewN ?_ _) | (with_reducible refine bdrew ?_) | (with_reducible refine balloc0 ?_) | (with_reducible refine balloc ?_ ?_) | (with_reducible apply btrans0; rotate_left; with_reducible assumption) | (with_reducible apply btrans; rotate_left; with_reducible assumption) | exact Below.refl _ _ | assumption | (apply btrans0; rotate_left; assumption) | (apply btrans; rotate_left; assumption) | (simp; done) | omega | (simp; omega)))
      have NG := (Below.heap_alloc wr (.cells (bunC x (.slice ua1 x.blocks.length uc1)).toArray 28) _ (by omega)).trans NW
      have NX : (wr.alloc (.cells (bunC x (.slice ua1 x.blocks.length uc1)).toArray 28)).heap[wr.heap.size]? = _ := heap_new
      have NR := RX.out.below (C := wr.heap.size) (M := wr.heap.size + 1) (w' := wr.alloc (.cells (bunC x (.slice ua1 x.blocks.length uc1)).toArray 28)) (by repeat' (first | (with_reducible refine bset ?_ ?_) | (with_reducible exact Below.refl _ _) | (with_reducible assumption) | (with_reducible refine bdrewN ?_ _) | (with_reducible refine bdrew ?_) | (with_reducible refine balloc0 ?_) | (with_reducible refine balloc ?_ ?_) | (with_reducible apply btrans0; rotate_left; with_reducible assumption) | (with_reducible apply btrans; rotate_left; with_reducible assumption) | exact Below.refl _ _ | assumption | (apply btrans0; rotate_left; assumption) | (apply btrans; rotate_left; assumption) | (simp; done) | omega | (simp; omega))) (Nat.le_refl _) (by omega)
      have NS : (wr.alloc (.cells (bunC x (.slice ua1 x.blocks.length uc1)).toArray 28)).heap.size = wr.heap.size + 1 := by simp
      simp only [bunC] at HB HB2 NG NX NR NS
      clear RX q0 q1 q2 q3 q4 q5 q6 q7 q8 q9 q10 q11 NW
      generalize wr.alloc (.cells _ _) = V0 at *
      have CX := fun o => cellB NX o
      have CG := fun o => cellB NG o
      clear NX NG
      obtain ⟨o', t', bl, pl, rfl⟩ := XX.out
      clear XX
      dsimp only at CX NR ⊢
      by_cases hL : 1 < l.length
      all_goals
        have hg : ((1 : Int) < (l.length : Int)) ↔ 1 < l.length := by omega
        refine wp_region_plan (fun V => (∀ o, V.cell? ⟨wr.heap.size, o, none⟩ = (bunC { b with off := o', tot := t', blocks := bl, payload := pl } (.slice ua1 bl.length uc1)).toArray[o]?) ∧ (∀ o, V.cell? ⟨w.heap.size, o, none⟩ = (bunC b (.slice ua b.blocks.length uc)).toArray[o]?)) [1, 2, 0, 0, 0, 1, 2, 0, 1, 2, 0, 0, 0, 0, 1, 0, 1, 0, 0, 0, 0, 1, 0, 1, 0, 0, 0, 0, 1, 0, 1, 0, 0, 0, 0, 1, 0, 1, 0, 0, 0, 1, 2, 0, 0, 0, 0, 1, 3, 0, 0, 0] [0, 1, 2, 3, 4, 5, 7, 8, 6, 9, 10, 11, 12, 13, 14, 15, 16, 17, 18, 19, 20, 21, 22, 23, 24, 25, 26, 27, 28, 29, 30, 31, 32, 33, 34, 35, 36, 37, 38, 39, 40, 41, 43, 44, 45, 42, 46, 47, 48, 49, 50, 51] (by kernel_rfl) (by kernel_rfl) ?_ ?_
        case refine_1 => exact ⟨CX, CG⟩
        (iterate 1 (refine plan_held rfl (by decide) (by rfl) (fun w1 hS => by (try (have hS := hS rfl; obtain hS := hS; repeat (obtain ⟨_, hS⟩ := hS))); go_simp; rfl) ?_; simp only [Act.put, List.setIfInBounds_toArray, List.set_cons_zero, List.set_cons_succ]))
        (refine plan_keep rfl rfl (by rfl) (fun K hK => ?_); go_simp)
        refine (check_any { b with off := o', tot := t', blocks := bl, payload := pl } _ V0.drew (NR.keep (w' := V0.drew) (M := V0.drew.heap.size) (fun _ _ _ => rfl) (by simp; omega)) XF.out).mono ?_
        rintro e w5 ⟨rfl, hb5⟩
        rw [XV.out]
        have l5 : V0.heap.size ≤ w5.heap.size := by have := hb5.size; simpa using this
        have kk5 : ∀ g o, g < V0.heap.size → w5.cell? ⟨g, o, none⟩ = V0.cell? ⟨g, o, none⟩ := fun g o hg => hb5.cell (p := ⟨g, o, none⟩) (by simpa using hg)
        (refine hK _ _ (by exact ⟨fun o => (kk5 _ _ (by omega)).trans (CX o), fun o => (kk5 _ _ (by omega)).trans (CG o)⟩) ?_; clear hK K; (try simp only [Act.put, List.setIfInBounds_toArray, List.set_cons_zero, List.set_cons_succ]))
        (iterate 6 (refine plan_held rfl (by decide) (by rfl) (fun w1 hS => by (try (have hS := hS rfl; obtain hS := hS; repeat (obtain ⟨_, hS⟩ := hS))); go_simp; rfl) ?_; simp only [Act.put, List.setIfInBounds_toArray, List.set_cons_zero, List.set_cons_succ]))
        (refine plan_keep rfl rfl (by rfl) (fun K hK => ?_); go_simp)
        refine (parent_any _ _ _ _ _ _).mono ?_
        rintro e w6 ⟨rfl, hb6⟩
        have l6 : w5.heap.size ≤ w6.heap.size := hb6.size
        have kk6 : ∀ g o, g < V0.heap.size → w6.cell? ⟨g, o, none⟩ = V0.cell? ⟨g, o, none⟩ := fun g o hg => (hb6.cell (p := ⟨g, o, none⟩) (by show g < _; omega)).trans (kk5 g o hg)
        (refine hK _ _ (by exact ⟨fun o => (kk6 _ _ (by omega)).trans (CX o), fun o => (kk6 _ _ (by omega)).trans (CG o)⟩) ?_; clear hK K; (try simp only [Act.put, List.setIfInBounds_toArray, List.set_cons_zero, List.set_cons_succ]))
        (refine plan_keep rfl rfl (by rfl) (fun K hK => ?_); go_simp)
        refine (parent_any _ _ _ _ _ _).mono ?_
        rintro e w7 ⟨rfl, hb7⟩
        have l7 : w6.heap.size ≤ w7.heap.size := hb7.size
        have kk7 : ∀ g o, g < V0.heap.size → w7.cell? ⟨g, o, none⟩ = V0.cell? ⟨g, o, none⟩ := fun g o hg => (hb7.cell (p := ⟨g, o, none⟩) (by show g < _; omega)).trans (kk6 g o hg)
        (refine hK _ _ (by exact ⟨fun o => (kk7 _ _ (by omega)).trans (CX o), fun o => (kk7 _ _ (by omega)).trans (CG o)⟩) ?_; clear hK K; (try simp only [Act.put, List.setIfInBounds_toArray, List.set_cons_zero, List.set_cons_succ]))
        have B7 : Below w.heap.size w w7 := (by repeat' (first | (with_reducible refine bset ?_ ?_) | (with_reducible exact Below.refl _ _) | (with_reducible assumption) | (with_reducible refine bdrewN ?_ _) | (with_reducible refine bdrew ?_) | (with_reducible refine balloc0 ?_) | (with_reducible refine balloc ?_ ?_) | (with_reducible apply btrans0; rotate_left; with_reducible assumption) | (with_reducible apply btrans; rotate_left; with_reducible assumption) | exact Below.refl _ _ | assumption | (apply btrans0; rotate_left; assumption) | (apply btrans; rotate_left; assumption) | (simp; done) | omega | (simp; omega)))
        (iterate 35 (refine plan_held rfl (by decide) (by rfl) (fun w1 hS => by (try (have hS := hS rfl; obtain hS := hS; repeat (obtain ⟨_, hS⟩ := hS))); go_simp; rfl) ?_; simp only [Act.put, List.setIfInBounds_toArray, List.set_cons_zero, List.set_cons_succ]))
        (refine plan_keep rfl rfl (by rfl) (fun K hK => ?_); go_simp)
        refine (is_any { b with off := o', tot := t', blocks := bl, payload := pl } _ w7 (NR.keep (w' := w7) (M := w7.heap.size) (fun b o hb => kk7 b o (by omega)) (by omega)) XF.out).mono ?_
        rintro e w8 ⟨rfl, hb8⟩
        rw [XI.out]
        have l8 : w7.heap.size ≤ w8.heap.size := hb8.size
        have kk8 : ∀ g o, g < V0.heap.size → w8.cell? ⟨g, o, none⟩ = V0.cell? ⟨g, o, none⟩ := fun g o hg => (hb8.cell (p := ⟨g, o, none⟩) (by show g < _; omega)).trans (kk7 g o hg)
        (refine hK _ _ (by exact ⟨fun o => (kk8 _ _ (by omega)).trans (CX o), fun o => (kk8 _ _ (by omega)).trans (CG o)⟩) ?_; clear hK K; (try simp only [Act.put, List.setIfInBounds_toArray, List.set_cons_zero, List.set_cons_succ]))
        have B8 : Below w.heap.size w w8 := (by repeat' (first | (with_reducible refine bset ?_ ?_) | (with_reducible exact Below.refl _ _) | (with_reducible assumption) | (with_reducible refine bdrewN ?_ _) | (with_reducible refine bdrew ?_) | (with_reducible refine balloc0 ?_) | (with_reducible refine balloc ?_ ?_) | (with_reducible apply btrans0; rotate_left; with_reducible assumption) | (with_reducible apply btrans; rotate_left; with_reducible assumption) | exact Below.refl _ _ | assumption | (apply btrans0; rotate_left; assumption) | (apply btrans; rotate_left; assumption) | (simp; done) | omega | (simp; omega)))
        (iterate 1 (refine plan_held rfl (by decide) (by rfl) (fun w1 hS => by (try (have hS := hS rfl; obtain hS := hS; repeat (obtain ⟨_, hS⟩ := hS))); go_simp; rfl) ?_; simp only [Act.put, List.setIfInBounds_toArray, List.set_cons_zero, List.set_cons_succ]))
      · refine plan_skip rfl (by decide) (by rfl) ?_
        simp only [Act.put, List.setIfInBounds_toArray, List.set_cons_zero, List.set_cons_succ]
        refine plan_skipL rfl rfl (by rfl) ?_
        simp only [Act.put, List.setIfInBounds_toArray, List.set_cons_zero, List.set_cons_succ]
        have hI : (decide (1 < l.length) || isS b) = true := by simp [hL]
        rw [hI]
        (iterate 3 (refine plan_held rfl (by decide) (by rfl) (fun w1 hS => by (try (have hS := hS rfl; obtain hS := hS; repeat (obtain ⟨_, hS⟩ := hS))); go_simp; rfl) ?_; simp only [Act.put, List.setIfInBounds_toArray, List.set_cons_zero, List.set_cons_succ]))
        refine plan_done ?_
        clear CX CG
        go_wp2
        go_roundw
        case rel => exact ⟨k + 1, by omega, by go_num, by clear HB B7 B8 hB2; exact (by repeat' (first | (with_reducible refine bset ?_ ?_) | (with_reducible exact Below.refl _ _) | (with_reducible assumption) | (with_reducible refine bdrewN ?_ _) | (with_reducible refine bdrew ?_) | (with_reducible refine balloc0 ?_) | (with_reducible refine balloc ?_ ?_) | (with_reducible apply btrans0; rotate_left; with_reducible assumption) | (with_reducible apply btrans; rotate_left; with_reducible assumption) | exact Below.refl _ _ | assumption | (apply btrans0; rotate_left; assumption) | (apply btrans; rotate_left; assumption) | (simp; done) | omega | (simp; omega)))⟩
        case measure => simp [intOf]; omega
      · have hI : (decide (1 < l.length) || isS b) = isS b := by simp [hL]
        rw [hI]
        (iterate 1 (refine plan_held rfl (by decide) (by rfl) (fun w1 hS => by (try (have hS := hS rfl; obtain hS := hS; repeat (obtain ⟨_, hS⟩ := hS))); go_simp; rfl) ?_; simp only [Act.put, List.setIfInBounds_toArray, List.set_cons_zero, List.set_cons_succ]))
        (refine plan_late rfl rfl (by rfl) (fun K hK => ?_); go_simp)
        refine (is_any b _ w8 (HR.out.below (C := w.heap.size) B8 (Nat.le_refl _) (by omega)) HF.out).mono ?_
        rintro e w9 ⟨rfl, hb9⟩
        (refine hK _ _ ?_; clear hK K; (try simp only [Act.put, List.setIfInBounds_toArray, List.set_cons_zero, List.set_cons_succ]))
        (iterate 3 (refine plan_held rfl (by decide) (by rfl) (fun w1 hS => by (try (have hS := hS rfl; obtain hS := hS; repeat (obtain ⟨_, hS⟩ := hS))); go_simp; rfl) ?_; simp only [Act.put, List.setIfInBounds_toArray, List.set_cons_zero, List.set_cons_succ]))
        refine plan_done ?_
        clear CX CG
        go_wp2
        go_roundw
        case rel => exact ⟨k + 1, by omega, by go_num, by clear HB B7 B8 hB2; exact (by repeat' (first | (with_reducible refine bset ?_ ?_) | (with_reducible exact Below.refl _ _) | (with_reducible assumption) | (with_reducible refine bdrewN ?_ _) | (with_reducible refine bdrew ?_) | (with_reducible refine balloc0 ?_) | (with_reducible refine balloc ?_ ?_) | (with_reducible apply btrans0; rotate_left; with_reducible assumption) | (with_reducible apply btrans; rotate_left; with_reducible assumption) | exact Below.refl _ _ | assumption | (apply btrans0; rotate_left; assumption) | (apply btrans; rotate_left; assumption) | (simp; done) | omega | (simp; omega)))⟩
        case measure => simp [intOf]; omega
    · obtain rfl : k = l.length := by omega
      go_wp2_with fail
      refine (awake_any _).mono ?_
      rintro e w5 ⟨rfl, hb5⟩
      go_wp2
      go_ret
      exact ⟨rfl, (by repeat' (first | (with_reducible refine bset ?_ ?_) | (with_reducible exact Below.refl _ _) | (with_reducible assumption) | (with_reducible refine bdrewN ?_ _) | (with_reducible refine bdrew ?_) | (with_reducible refine balloc0 ?_) | (with_reducible refine balloc ?_ ?_) | (with_reducible apply btrans0; rotate_left; with_reducible assumption) | (with_reducible apply btrans; rotate_left; with_reducible assumption) | exact Below.refl _ _ | assumption | (apply btrans0; rotate_left; assumption) | (apply btrans; rotate_left; assumption) | (simp; done) | omega | (simp; omega)))⟩

set_option maxRecDepth 100000 in
theorem lifted (os : Os) (started : os.Started) (H : Type) (enc : TypeId × Value → H) :
    ReturnsInHanded {} Try.checked os 6 .any (Rows.fragmentValidSpec.pre6 enc Try.prog Try.f6 Rows.fragmentValidRow.domain false) (Rows.fragmentValidSpec.post enc Try.prog Try.f6 false true false false) := by
  refine returnsInHanded_of_change (C := Try.checked) own started (by kernel_rfl) Try.func6
    (ChangeSpec.witness6 (enc := enc) (C := Try.checked) false ⟨#[], #[.agg bun0, .int .i64 0, .bool false], []⟩ 8 (by kernel_rfl) (by kernel_rfl) (by kernel_rfl) (by kernel_rfl)) ?_
  intro W base args ds gs before hval0 hW hcnd _
  have hval : ∀ (j : Nat) t v, Try.f6.params[j]? = some t → args[j]? = some v → Value.okWide Try.prog W .any base t v := hval0
  have hW' := hW
  obtain ⟨p, q, hA0, hV, rfl, hfz, hnd⟩ := hW
  have hA : DataW.TrodAll enc Try.prog W 0 (fun _ => true) true Try.f6.params.toList args.toList ds p := hA0
  rw [Try.params6] at hA hval
  obtain ⟨v0, vs0, d0, ds0, p0, q0, hargs, rfl, rfl, h0, r0⟩ := trodAll_cons hA
  obtain ⟨v1, vs1, d1, ds1, p1, q1, rfl, rfl, rfl, h1, r1⟩ := trodAll_cons r0
  obtain ⟨v2, vs2, d2, ds2, p2, q2, rfl, rfl, rfl, h2, r2⟩ := trodAll_cons r1
  obtain ⟨rfl, rfl, rfl⟩ := trodAll_nil r2
  obtain rfl : args = #[v0, v1, v2] := by cases args; simp_all
  obtain ⟨b, u, rfl, hr, hf⟩ := open_bun (hval 0 28 v0 rfl rfl) h0
  obtain ⟨x1, rfl, _, _, wx1⟩ := open_int Try.underlying3 (hval 1 3 v1 rfl rfl) h1
  obtain ⟨x2, rfl⟩ := okWide_bool Try.underlying4 (hval 2 4 v2 rfl rfl)
  refine (walk b u x1 x2 W hr hf).mono fun e W' ⟨he, hB⟩ => ?_
  subst he
  refine ⟨_, rfl, law_post (by kernel_rfl) (by kernel_rfl) rfl Try.underlying4 rfl ?_ hW' hB⟩
  intro es hes
  match es, hes with
  | [_, _, _], _ => rfl

theorem proved : Rows.FragmentValidSaid :=
  OpenClaim.holds_of_wide 6 Try.f6 rfl rfl rfl rfl rfl rfl rfl ⟨rfl, rfl, rfl, rfl, rfl⟩ rfl rfl rfl rfl rfl (by kernel_rfl) Try.func6 (by kernel_rfl)
    (of_decide_eq_true (by kernel_rfl)) (by unfold Func.isWrapper; first | (rw [if_pos (by decide +kernel)]; kernel_rfl) | (rw [if_neg (by decide +kernel)]; exact ⟨rfl, rfl⟩))
    (fun os started H enc _ => lifted os started H enc)
#print axioms proved
end Go.Proofs.Ytibfchdhppdccaa.fragmentValid
