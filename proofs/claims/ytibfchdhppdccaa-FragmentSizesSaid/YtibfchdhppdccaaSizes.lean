/-
  Proved: mailboatlaw17.FragmentSizes returns true for every input, and leaves its arguments as they were. No condition.
-/
import Derived.Test.YtibfchdhppdccaaRows
import Derived.Test.YtibfchdhppdccaaGo
import Derived.Test.YtibfchdhppdccaaGq
import Derived.Test.YtibfchdhppdccaaFe
import Derived.Test.YtibfchdhppdccaaQd
import Derived.Test.YtibfchdhppdccaaR
import Derived.Test.YtibfchdhppdccaaL
set_option linter.unusedVariables false
set_option linter.unusedSimpArgs false
namespace Go.Proofs.Ytibfchdhppdccaa.fragmentSizes
open Go Go.ChangeShapes Go.WideShapes Go.ChangeAt Go.RowKit Go.Joins Go.Proofs.Ytibfchdhppdccaa
attribute [local go_sem] B_getElem B_size B_app B_extract B_get B_toList
attribute [local go_sem] bunC
attribute [local go_sem ↓] eqBlk eqId eqEnd

theorem own : ownKnob Try.prog.godebug = none := by kernel_rfl

set_option maxRecDepth 100000 in
set_option maxHeartbeats 1600000 in
theorem walk (b : Bun) (u : Value) (n : Int) (w : World) (h : RBlks w w.heap.size u b.blocks) (hf : Fits b) :
    Calls Try.prog 4 #[.agg (bunC b u).toArray, .int .i64 n] w (Says w) := by
  obtain ⟨⟨l, E⟩, hl⟩ : ∃ x, partsR b n false = x := ⟨_, rfl⟩
  have HL := Lib.hid hl
  obtain ⟨⟨m, F⟩, hm⟩ : ∃ x, partsR b n true = x := ⟨_, rfl⟩
  have HM := Lib.hid hm
  clear hl hm
  obtain ⟨ua, uc, rfl, _⟩ := id h
  have HR := Lib.hid h
  have HF := Lib.hid hf
  clear h hf
  go_enter Try.func4, Try.ntmps4
  simp only [bunC]
  go_wp2_with fail
  refine (lawGreat_any b _ _ (HR.out.below (C := w.heap.size) (by repeat' (first | (with_reducible refine bset ?_ ?_) | (with_reducible exact Below.refl _ _) | (with_reducible assumption) | (with_reducible refine bdrewN ?_ _) | (with_reducible refine bdrew ?_) | (with_reducible refine balloc0 ?_) | (with_reducible refine balloc ?_ ?_) | (with_reducible apply btrans0; rotate_left; with_reducible assumption) | (with_reducible apply btrans; rotate_left; with_reducible assumption) | exact Below.refl _ _ | assumption | (apply btrans0; rotate_left; assumption) | (apply btrans; rotate_left; assumption) | (simp; done) | omega | (simp; omega))) (Nat.le_refl _) (by simp)) HF.out).mono ?_
  rintro e w1 ⟨g, rfl, hb1⟩
  obtain ⟨k1, f1⟩ := bcell hb1
  have z1 : w.heap.size < w1.heap.size := by have := hb1.size; simp at this; omega
  cases g
  case true =>
    go_wp2_with fail
    refine (awake_any _).mono ?_
    rintro e w2 ⟨rfl, hb2⟩
    go_wp2
    go_ret
    exact ⟨rfl, (by repeat' (first | (with_reducible refine bset ?_ ?_) | (with_reducible exact Below.refl _ _) | (with_reducible assumption) | (with_reducible refine bdrewN ?_ _) | (with_reducible refine bdrew ?_) | (with_reducible refine balloc0 ?_) | (with_reducible refine balloc ?_ ?_) | (with_reducible apply btrans0; rotate_left; with_reducible assumption) | (with_reducible apply btrans; rotate_left; with_reducible assumption) | exact Below.refl _ _ | assumption | (apply btrans0; rotate_left; assumption) | (apply btrans; rotate_left; assumption) | (simp; done) | omega | (simp; omega)))⟩
  have hB1 : Below w.heap.size w w1 := (by repeat' (first | (with_reducible refine bset ?_ ?_) | (with_reducible exact Below.refl _ _) | (with_reducible assumption) | (with_reducible refine bdrewN ?_ _) | (with_reducible refine bdrew ?_) | (with_reducible refine balloc0 ?_) | (with_reducible refine balloc ?_ ?_) | (with_reducible apply btrans0; rotate_left; with_reducible assumption) | (with_reducible apply btrans; rotate_left; with_reducible assumption) | exact Below.refl _ _ | assumption | (apply btrans0; rotate_left; assumption) | (apply btrans; rotate_left; assumption) | (simp; done) | omega | (simp; omega)))
  have G1 : w1.heap[w.heap.size]? = some (.cells (bunC b (.slice ua b.blocks.length uc)).toArray 28 (0, 0)) := (hb1.block _ (by simp)).trans heap_new
  clear k1 f1
  have ca := fun o => cellB G1 o
  simp only [bunC] at ca
  go_wp2_with fail
  clear ca
  refine (parts_any b _ n false w.heap.size _ (by omega) (HR.out.below (C := w.heap.size) hB1 (Nat.le_refl _) (Nat.le_refl _)) HF.out).mono ?_
  rw [HL.out]
  rintro e w2 ⟨a2, c2, rfl, r2, hb2⟩
  have l2 : w1.heap.size ≤ w2.heap.size := hb2.size
  have z2 : w.heap.size < w2.heap.size := by omega
  have hB2 : Below w.heap.size w w2 := (by repeat' (first | (with_reducible refine bset ?_ ?_) | (with_reducible exact Below.refl _ _) | (with_reducible assumption) | (with_reducible refine bdrewN ?_ _) | (with_reducible refine bdrew ?_) | (with_reducible refine balloc0 ?_) | (with_reducible refine balloc ?_ ?_) | (with_reducible apply btrans0; rotate_left; with_reducible assumption) | (with_reducible apply btrans; rotate_left; with_reducible assumption) | exact Below.refl _ _ | assumption | (apply btrans0; rotate_left; assumption) | (apply btrans; rotate_left; assumption) | (simp; done) | omega | (simp; omega)))
  have G2 := (hb2.block w.heap.size (by omega)).trans G1
  clear hb2 hb1 hB1 G1
  by_cases hE : E = 0
  case neg =>
    have hE' : decide (E = 0) = false := by simpa using hE
    simp only [hE']
    have ca := fun o => cellB G2 o
    simp only [bunC] at ca
    go_wp2_with fail
    clear ca
    refine (parts_any b _ n true w.heap.size _ (by omega) (HR.out.below (C := w.heap.size) hB2 (Nat.le_refl _) (Nat.le_refl _)) HF.out).mono ?_
    rw [HM.out]
    rintro e w4 ⟨a4, c4, rfl, r4, hb4⟩
    have l4 : w2.heap.size ≤ w4.heap.size := hb4.size
    have z4 : w.heap.size < w4.heap.size := by omega
    have hB4 : Below w.heap.size w w4 := (by repeat' (first | (with_reducible refine bset ?_ ?_) | (with_reducible exact Below.refl _ _) | (with_reducible assumption) | (with_reducible refine bdrewN ?_ _) | (with_reducible refine bdrew ?_) | (with_reducible refine balloc0 ?_) | (with_reducible refine balloc ?_ ?_) | (with_reducible apply btrans0; rotate_left; with_reducible assumption) | (with_reducible apply btrans; rotate_left; with_reducible assumption) | exact Below.refl _ _ | assumption | (apply btrans0; rotate_left; assumption) | (apply btrans; rotate_left; assumption) | (simp; done) | omega | (simp; omega)))
    clear hb4
    by_cases hF : F = 0
    case neg =>
      have hF' : decide (F = 0) = false := by simpa using hF
      simp only [hF']
      go_wp2_with fail
      refine (awake_any _).mono ?_
      rintro e w5 ⟨rfl, hb5⟩
      go_wp2
      go_ret
      exact ⟨rfl, (by repeat' (first | (with_reducible refine bset ?_ ?_) | (with_reducible exact Below.refl _ _) | (with_reducible assumption) | (with_reducible refine bdrewN ?_ _) | (with_reducible refine bdrew ?_) | (with_reducible refine balloc0 ?_) | (with_reducible refine balloc ?_ ?_) | (with_reducible apply btrans0; rotate_left; with_reducible assumption) | (with_reducible apply btrans; rotate_left; with_reducible assumption) | exact Below.refl _ _ | assumption | (apply btrans0; rotate_left; assumption) | (apply btrans; rotate_left; assumption) | (simp; done) | omega | (simp; omega)))⟩
    subst hF
    simp only [decide_true]
    obtain ⟨s1, s2, s3, s4⟩ := pieces_sizes (b := b) (n := n) (by have := HM.out; unfold partsR at this; rwa [if_pos rfl] at this)
    have S3 := Lib.hid s3
    have S4' := Lib.hid s4
    have S1 := Lib.hid s1
    have hm0 : (0 : Int) < (m.length : Int) := by omega
    obtain ⟨a', c', e', h1, h2, h3, h4⟩ := r4
    injection e' with e1 _ e2
    subst e1 e2
    have M4 := Lib.hid h4
    unfold maxLen at h2
    have hlen : m.length ≤ 9223372036854775807 := by have h1' : m.length ≤ c4 := h1; omega
    clear h3 h4 s3 s4 s1
    go_wp2
    go_loopw [72] (fun i wr => ∃ (k : Nat), k ≤ m.length ∧ i = .int .i64 k ∧ Below w4.heap.size w4 wr) (fun i _ => m.length - (intOf i).toNat)
    case atStart => exact ⟨0, Nat.zero_le _, rfl, Below.refl _ _⟩
    case round =>
      obtain ⟨k, hk, rfl, hB⟩ := hrel
      by_cases hlt : k < m.length
      · obtain ⟨bb, o, rfl, hbn, hcell⟩ := M4.out (by omega)
        obtain ⟨x, hx⟩ : ∃ x, m[k]? = some x := ⟨_, List.getElem?_eq_getElem hlt⟩
        obtain ⟨y, hy⟩ : ∃ y, m[0]? = some y := ⟨_, List.getElem?_eq_getElem (by omega)⟩
        have kb : ∀ b o, b < w4.heap.size → wr.cell? ⟨b, o, none⟩ = w4.cell? ⟨b, o, none⟩ := fun b o hb => hB.cell (p := ⟨b, o, none⟩) hb
        obtain ⟨u1, c1, r1⟩ := (hcell k x hx).keep (M := wr.heap.size) hbn kb hB.size
        obtain ⟨ua1, uc1, rfl, _⟩ := id r1
        obtain ⟨_, cy, _⟩ := (hcell 0 y hy).keep (M := wr.heap.size) hbn kb hB.size
        have y11 : wr.cell? ⟨bb, o + 11, none⟩ = some (.string (B y.payload)) := by have := cy 11 _ rfl; simpa using this
        have hS4 := S4'.out k y x hy hx
        have k0 : (0 : Int) ≤ (k : Int) := by omega
        have k1' : (k : Int) < (m.length : Int) := by omega
        have bR : bb < wr.heap.size := by have := hB.size; omega
        have q0 : wr.cell? ⟨bb, o + k * 12, none⟩ = some (.int .i64 x.src) := c1 0 _ rfl
        have q1 : wr.cell? ⟨bb, o + k * 12 + 1, none⟩ = some (.int .i64 x.crt) := c1 1 _ rfl
        have q2 : wr.cell? ⟨bb, o + k * 12 + 2, none⟩ = some (.int .i64 x.seq) := c1 2 _ rfl
        have q3 : wr.cell? ⟨bb, o + k * 12 + 3, none⟩ = some (.int .i64 x.off) := c1 3 _ rfl
        have q4 : wr.cell? ⟨bb, o + k * 12 + 4, none⟩ = some (.int .i64 x.tot) := c1 4 _ rfl
        have q5 : wr.cell? ⟨bb, o + k * 12 + 5, none⟩ = some (.int .i64 x.dk) := c1 5 _ rfl
        have q6 : wr.cell? ⟨bb, o + k * 12 + 6, none⟩ = some (.int .i64 x.dn) := c1 6 _ rfl
        have q7 : wr.cell? ⟨bb, o + k * 12 + 7, none⟩ = some (.int .i64 x.life) := c1 7 _ rfl
        have q8 : wr.cell? ⟨bb, o + k * 12 + 8, none⟩ = some (.int .i64 x.prio) := c1 8 _ rfl
        have q9 : wr.cell? ⟨bb, o + k * 12 + 9, none⟩ = some (.int .i64 x.flags) := c1 9 _ rfl
        have q10 : wr.cell? ⟨bb, o + k * 12 + 10, none⟩ = some (.slice ua1 x.blocks.length uc1) := c1 10 _ rfl
        have q11 : wr.cell? ⟨bb, o + k * 12 + 11, none⟩ = some (.string (B x.payload)) := c1 11 _ rfl
        obtain ⟨yv, _⟩ := (parts_valid (b := b) (n := n) (p := true) (by rw [HM.out])).2 y (by rw [HM.out]; exact List.mem_of_getElem? hy)
        obtain ⟨_, _, _, _, y5, _⟩ := valid_facts yv
        have hw : IntKind.i64.wrap ((y.payload.length : Int) - 1) = (y.payload.length : Int) - 1 := by rw [IntKind.wrap_i64]; omega
        have hn1 : ¬ ((x.payload.length : Int) < (y.payload.length : Int) - 1) := by omega
        by_cases hkz : k = 0
        · have hkn : decide ((0 : Int) < (k : Int)) = false := decide_eq_false (by omega)
          have hkn2 : decide (0 < k) = false := decide_eq_false (by omega)
          clear cy c1 r1 hx hy hkz kb hcell
          go_wp2
          refine wp_region_plan (fun V => (∀ o, V.cell? ⟨wr.heap.size, o, none⟩ = (bunC x (.slice ua1 x.blocks.length uc1)).toArray[o]?) ∧ V.cell? ⟨bb, o + 11, none⟩ = some (.string (B y.payload))) [0, 0, 0, 0, 1, 0, 0, 0, 0, 0, 0, 1, 0, 0, 0, 0, 0, 1, 0, 0, 0, 0, 1, 0, 0, 0, 0] [0, 1, 2, 3, 4, 5, 6, 7, 8, 9, 10, 11, 12, 13, 14, 15, 16, 17, 18, 19, 20, 21, 22, 23, 24, 25, 26] (by kernel_rfl) (by kernel_rfl) ?_ ?_
          case refine_1 => exact ⟨fun o => by rw [World.cell?_drew]; exact cellB heap_new o, by rw [World.cell?_drew]; exact (World.cell?_alloc_lt _ _ _ bR).trans y11⟩
          (iterate 3 (refine plan_held rfl (by decide) (by rfl) (fun w1 hS => by (try (have hS := hS rfl; obtain hS := hS; repeat (obtain ⟨_, hS⟩ := hS))); go_simp; rfl) ?_; simp only [Act.put, List.setIfInBounds_toArray, List.set_cons_zero, List.set_cons_succ]))
          iterate 11 (refine plan_skip rfl (by decide) (by rfl) ?_; simp only [Act.put, List.setIfInBounds_toArray, List.set_cons_zero, List.set_cons_succ])
          (iterate 13 (refine plan_held rfl (by decide) (by rfl) (fun w1 hS => by (try (have hS := hS rfl; obtain hS := hS; repeat (obtain ⟨_, hS⟩ := hS))); go_simp; rfl) ?_; simp only [Act.put, List.setIfInBounds_toArray, List.set_cons_zero, List.set_cons_succ]))
          refine plan_done ?_
          go_wp2
          go_roundw
          case rel => exact ⟨k + 1, by omega, by go_num, by clear hB2 hB4; exact (by repeat' (first | (with_reducible refine bset ?_ ?_) | (with_reducible exact Below.refl _ _) | (with_reducible assumption) | (with_reducible refine bdrewN ?_ _) | (with_reducible refine bdrew ?_) | (with_reducible refine balloc0 ?_) | (with_reducible refine balloc ?_ ?_) | (with_reducible apply btrans0; rotate_left; with_reducible assumption) | (with_reducible apply btrans; rotate_left; with_reducible assumption) | exact Below.refl _ _ | assumption | (apply btrans0; rotate_left; assumption) | (apply btrans; rotate_left; assumption) | (simp; done) | omega | (simp; omega)))⟩
          case measure => simp [intOf]; omega
        · obtain ⟨j, hj⟩ : ∃ j, k = j + 1 := ⟨k - 1, by omega⟩
          have hkp : decide ((0 : Int) < (k : Int)) = true := decide_eq_true (by omega)
          have hkp2 : decide (0 < k) = true := decide_eq_true (by omega)
          obtain ⟨z, hz⟩ : ∃ z, m[j]? = some z := ⟨_, List.getElem?_eq_getElem (by omega)⟩
          have hS3 := S3.out j z x hz (by rw [← hj]; exact hx)
          obtain ⟨_, cz, _⟩ := (hcell j z hz).keep (M := wr.heap.size) hbn kb hB.size
          have z11 : wr.cell? ⟨bb, o + j * 12 + 11, none⟩ = some (.string (B z.payload)) := cz 11 _ rfl
          have hn2 : decide ((z.payload.length : Int) < (x.payload.length : Int)) = false := decide_eq_false (by omega)
          have hn3 : decide (z.payload.length < x.payload.length) = false := decide_eq_false (by omega)
          have hwj : IntKind.i64.wrap ((k : Int) - 1) = (j : Int) := by rw [IntKind.wrap_i64]; omega
          have hj0 : (0 : Int) ≤ (j : Int) := by omega
          have hj1 : (j : Int) < (m.length : Int) := by omega
          clear cy c1 r1 hx hy cz hz hj hkz kb hcell
          go_wp2
          refine wp_region_plan (fun V => (∀ o, V.cell? ⟨wr.heap.size, o, none⟩ = (bunC x (.slice ua1 x.blocks.length uc1)).toArray[o]?) ∧ V.cell? ⟨bb, o + 11, none⟩ = some (.string (B y.payload)) ∧ V.cell? ⟨bb, o + j * 12 + 11, none⟩ = some (.string (B z.payload))) [0, 0, 0, 0, 1, 0, 0, 0, 0, 0, 0, 1, 0, 0, 0, 0, 0, 1, 0, 0, 0, 0, 1, 0, 0, 0, 0] [0, 1, 2, 3, 4, 5, 6, 7, 8, 9, 10, 11, 12, 13, 14, 15, 16, 17, 18, 19, 20, 21, 22, 23, 24, 25, 26] (by kernel_rfl) (by kernel_rfl) ?_ ?_
          case refine_1 => exact ⟨fun o => by rw [World.cell?_drew]; exact cellB heap_new o, by rw [World.cell?_drew]; exact (World.cell?_alloc_lt _ _ _ bR).trans y11, by rw [World.cell?_drew]; exact (World.cell?_alloc_lt _ _ _ bR).trans z11⟩
          (iterate 27 (refine plan_held rfl (by decide) (by rfl) (fun w1 hS => by (try (have hS := hS rfl; obtain hS := hS; repeat (obtain ⟨_, hS⟩ := hS))); go_simp; rfl) ?_; simp only [Act.put, List.setIfInBounds_toArray, List.set_cons_zero, List.set_cons_succ]))
          refine plan_done ?_
          go_wp2
          go_roundw
          case rel => exact ⟨k + 1, by omega, by go_num, by clear hB2 hB4; exact (by repeat' (first | (with_reducible refine bset ?_ ?_) | (with_reducible exact Below.refl _ _) | (with_reducible assumption) | (with_reducible refine bdrewN ?_ _) | (with_reducible refine bdrew ?_) | (with_reducible refine balloc0 ?_) | (with_reducible refine balloc ?_ ?_) | (with_reducible apply btrans0; rotate_left; with_reducible assumption) | (with_reducible apply btrans; rotate_left; with_reducible assumption) | exact Below.refl _ _ | assumption | (apply btrans0; rotate_left; assumption) | (apply btrans; rotate_left; assumption) | (simp; done) | omega | (simp; omega)))⟩
          case measure => simp [intOf]; omega
      · obtain rfl : k = m.length := by omega
        have e1 := S1.out
        clear S3 S4' M4
        subst e1
        go_wp2_with fail
        refine (awake_any _).mono ?_
        rintro e w5 ⟨rfl, hb5⟩
        go_wp2
        go_ret
        exact ⟨rfl, (by repeat' (first | (with_reducible refine bset ?_ ?_) | (with_reducible exact Below.refl _ _) | (with_reducible assumption) | (with_reducible refine bdrewN ?_ _) | (with_reducible refine bdrew ?_) | (with_reducible refine balloc0 ?_) | (with_reducible refine balloc ?_ ?_) | (with_reducible apply btrans0; rotate_left; with_reducible assumption) | (with_reducible apply btrans; rotate_left; with_reducible assumption) | exact Below.refl _ _ | assumption | (apply btrans0; rotate_left; assumption) | (apply btrans; rotate_left; assumption) | (simp; done) | omega | (simp; omega)))⟩
  subst hE
  simp only [decide_true]
  have SS := Lib.hid (split_sizes (b := b) (n := n) (l := l) (by have := HL.out; unfold partsR at this; rwa [if_neg (by simp)] at this))
  obtain ⟨a', c', e', h1, h2, h3, h4⟩ := r2
  injection e' with e1 _ e2
  subst e1 e2
  have H4 := Lib.hid h4
  unfold maxLen at h2
  have hlen : l.length ≤ 9223372036854775807 := by have h1' : l.length ≤ c2 := h1; omega
  clear h3 h4
  go_wp2
  go_loopw [25] (fun i wr => ∃ (k : Nat), k ≤ l.length ∧ i = .int .i64 k ∧ Below w2.heap.size w2 wr) (fun i _ => l.length - (intOf i).toNat)
  case atStart => exact ⟨0, Nat.zero_le _, rfl, Below.refl _ _⟩
  case round =>
    obtain ⟨k, hk, rfl, hB⟩ := hrel
    by_cases hlt : k < l.length
    · obtain ⟨bb, o, rfl, hbn, hcell⟩ := H4.out (by omega)
      obtain ⟨x, hx⟩ : ∃ x, l[k]? = some x := ⟨_, List.getElem?_eq_getElem hlt⟩
      have kb : ∀ b o, b < w2.heap.size → wr.cell? ⟨b, o, none⟩ = w2.cell? ⟨b, o, none⟩ := fun b o hb => hB.cell (p := ⟨b, o, none⟩) hb
      obtain ⟨u1, c1, r1⟩ := (hcell k x hx).keep (M := wr.heap.size) hbn kb hB.size
      obtain ⟨ua1, uc1, rfl, _⟩ := id r1
      obtain ⟨s1, s2, s3⟩ := SS.out k x hx
      have S2 := Lib.hid s2
      have S3 := Lib.hid s3
      clear s2 s3
      have k0 : (0 : Int) ≤ (k : Int) := by omega
      have k1' : (k : Int) < (l.length : Int) := by omega
      have bR : bb < wr.heap.size := by have := hB.size; omega
      have q0 : wr.cell? ⟨bb, o + k * 12, none⟩ = some (.int .i64 x.src) := c1 0 _ rfl
      have q1 : wr.cell? ⟨bb, o + k * 12 + 1, none⟩ = some (.int .i64 x.crt) := c1 1 _ rfl
      have q2 : wr.cell? ⟨bb, o + k * 12 + 2, none⟩ = some (.int .i64 x.seq) := c1 2 _ rfl
      have q3 : wr.cell? ⟨bb, o + k * 12 + 3, none⟩ = some (.int .i64 x.off) := c1 3 _ rfl
      have q4 : wr.cell? ⟨bb, o + k * 12 + 4, none⟩ = some (.int .i64 x.tot) := c1 4 _ rfl
      have q5 : wr.cell? ⟨bb, o + k * 12 + 5, none⟩ = some (.int .i64 x.dk) := c1 5 _ rfl
      have q6 : wr.cell? ⟨bb, o + k * 12 + 6, none⟩ = some (.int .i64 x.dn) := c1 6 _ rfl
      have q7 : wr.cell? ⟨bb, o + k * 12 + 7, none⟩ = some (.int .i64 x.life) := c1 7 _ rfl
      have q8 : wr.cell? ⟨bb, o + k * 12 + 8, none⟩ = some (.int .i64 x.prio) := c1 8 _ rfl
      have q9 : wr.cell? ⟨bb, o + k * 12 + 9, none⟩ = some (.int .i64 x.flags) := c1 9 _ rfl
      have q10 : wr.cell? ⟨bb, o + k * 12 + 10, none⟩ = some (.slice ua1 x.blocks.length uc1) := c1 10 _ rfl
      have q11 : wr.cell? ⟨bb, o + k * 12 + 11, none⟩ = some (.string (B x.payload)) := c1 11 _ rfl
      have hn1 : ¬ (n < (x.payload.length : Int)) := by omega
      have hw : IntKind.i64.wrap ((k : Int) + 1) = (k : Int) + 1 := by rw [IntKind.wrap_i64]; omega
      by_cases hA : k + 1 < l.length
      · have hA1 : ((k : Int) + 1 < (l.length : Int)) := by omega
        have hA2 : (1 : Int) < (l.length : Int) := by omega
        have hA3 : ((x.payload.length : Int) == n) = true := beq_iff_eq.2 (S2.out hA)
        have hA4 : ((x.payload.length : Int) == 0) = false := beq_eq_false_iff_ne.2 (by have := S3.out (by omega); omega)
        have hA5 : 0 < x.payload.length := S3.out (by omega)
        clear c1 r1 hx kb hcell
        go_wp2
        all_goals first | (rename_i hbad; exact absurd (S2.out hA) hbad) | skip
        go_roundw
        case rel => exact ⟨k + 1, by omega, by go_num, by clear hB2; exact (by repeat' (first | (with_reducible refine bset ?_ ?_) | (with_reducible exact Below.refl _ _) | (with_reducible assumption) | (with_reducible refine bdrewN ?_ _) | (with_reducible refine bdrew ?_) | (with_reducible refine balloc0 ?_) | (with_reducible refine balloc ?_ ?_) | (with_reducible apply btrans0; rotate_left; with_reducible assumption) | (with_reducible apply btrans; rotate_left; with_reducible assumption) | exact Below.refl _ _ | assumption | (apply btrans0; rotate_left; assumption) | (apply btrans; rotate_left; assumption) | (simp; done) | omega | (simp; omega)))⟩
        case measure => simp [intOf]; omega
      · have hA1 : ¬ ((k : Int) + 1 < (l.length : Int)) := by omega
        by_cases hC : 1 < l.length
        · have hA2 : (1 : Int) < (l.length : Int) := by omega
          have hA4 : ((x.payload.length : Int) == 0) = false := beq_eq_false_iff_ne.2 (by have := S3.out (by omega); omega)
          have hA5 : 0 < x.payload.length := S3.out (by omega)
          clear c1 r1 hx kb hcell
          go_wp2
          go_roundw
          case rel => exact ⟨k + 1, by omega, by go_num, by clear hB2; exact (by repeat' (first | (with_reducible refine bset ?_ ?_) | (with_reducible exact Below.refl _ _) | (with_reducible assumption) | (with_reducible refine bdrewN ?_ _) | (with_reducible refine bdrew ?_) | (with_reducible refine balloc0 ?_) | (with_reducible refine balloc ?_ ?_) | (with_reducible apply btrans0; rotate_left; with_reducible assumption) | (with_reducible apply btrans; rotate_left; with_reducible assumption) | exact Below.refl _ _ | assumption | (apply btrans0; rotate_left; assumption) | (apply btrans; rotate_left; assumption) | (simp; done) | omega | (simp; omega)))⟩
          case measure => simp [intOf]; omega
        · have hA2 : ¬ (1 : Int) < (l.length : Int) := by omega
          clear c1 r1 hx kb hcell
          go_wp2
          go_roundw
          case rel => exact ⟨k + 1, by omega, by go_num, by clear hB2; exact (by repeat' (first | (with_reducible refine bset ?_ ?_) | (with_reducible exact Below.refl _ _) | (with_reducible assumption) | (with_reducible refine bdrewN ?_ _) | (with_reducible refine bdrew ?_) | (with_reducible refine balloc0 ?_) | (with_reducible refine balloc ?_ ?_) | (with_reducible apply btrans0; rotate_left; with_reducible assumption) | (with_reducible apply btrans; rotate_left; with_reducible assumption) | exact Below.refl _ _ | assumption | (apply btrans0; rotate_left; assumption) | (apply btrans; rotate_left; assumption) | (simp; done) | omega | (simp; omega)))⟩
          case measure => simp [intOf]; omega
    · obtain rfl : k = l.length := by omega
      have NW := (hB.block w.heap.size (by omega)).trans G2
      have HBw : Below w.heap.size w wr := (by repeat' (first | (with_reducible refine bset ?_ ?_) | (with_reducible exact Below.refl _ _) | (with_reducible assumption) | (with_reducible refine bdrewN ?_ _) | (with_reducible refine bdrew ?_) | (with_reducible refine balloc0 ?_) | (with_reducible refine balloc ?_ ?_) | (with_reducible apply btrans0; rotate_left; with_reducible assumption) | (with_reducible apply btrans; rotate_left; with_reducible assumption) | exact Below.refl _ _ | assumption | (apply btrans0; rotate_left; assumption) | (apply btrans; rotate_left; assumption) | (simp; done) | omega | (simp; omega)))
      have z2w : w2.heap.size ≤ wr.heap.size := hB.size
      clear hB hB2 G2 H4 SS
      have ca := fun o => cellB NW o
      simp only [bunC] at ca
      go_wp2_with fail
      clear ca
      refine (parts_any b _ n true w.heap.size _ (by omega) (HR.out.below (C := w.heap.size) HBw (Nat.le_refl _) (Nat.le_refl _)) HF.out).mono ?_
      rw [HM.out]
      rintro e w4 ⟨a4, c4, rfl, r4, hb4⟩
      have l4 : wr.heap.size ≤ w4.heap.size := hb4.size
      have z4 : w.heap.size < w4.heap.size := by omega
      have hB4 : Below w.heap.size w w4 := (by repeat' (first | (with_reducible refine bset ?_ ?_) | (with_reducible exact Below.refl _ _) | (with_reducible assumption) | (with_reducible refine bdrewN ?_ _) | (with_reducible refine bdrew ?_) | (with_reducible refine balloc0 ?_) | (with_reducible refine balloc ?_ ?_) | (with_reducible apply btrans0; rotate_left; with_reducible assumption) | (with_reducible apply btrans; rotate_left; with_reducible assumption) | exact Below.refl _ _ | assumption | (apply btrans0; rotate_left; assumption) | (apply btrans; rotate_left; assumption) | (simp; done) | omega | (simp; omega)))
      clear hb4
      by_cases hF : F = 0
      case neg =>
        have hF' : decide (F = 0) = false := by simpa using hF
        simp only [hF']
        go_wp2_with fail
        refine (awake_any _).mono ?_
        rintro e w5 ⟨rfl, hb5⟩
        go_wp2
        go_ret
        exact ⟨rfl, (by repeat' (first | (with_reducible refine bset ?_ ?_) | (with_reducible exact Below.refl _ _) | (with_reducible assumption) | (with_reducible refine bdrewN ?_ _) | (with_reducible refine bdrew ?_) | (with_reducible refine balloc0 ?_) | (with_reducible refine balloc ?_ ?_) | (with_reducible apply btrans0; rotate_left; with_reducible assumption) | (with_reducible apply btrans; rotate_left; with_reducible assumption) | exact Below.refl _ _ | assumption | (apply btrans0; rotate_left; assumption) | (apply btrans; rotate_left; assumption) | (simp; done) | omega | (simp; omega)))⟩
      subst hF
      simp only [decide_true]
      obtain ⟨s1, s2, s3, s4⟩ := pieces_sizes (b := b) (n := n) (by have := HM.out; unfold partsR at this; rwa [if_pos rfl] at this)
      have S3 := Lib.hid s3
      have S4' := Lib.hid s4
      have S1 := Lib.hid s1
      have hm0 : (0 : Int) < (m.length : Int) := by omega
      obtain ⟨a', c', e', h1, h2, h3, h4⟩ := r4
      injection e' with e1 _ e2
      subst e1 e2
      have M4 := Lib.hid h4
      unfold maxLen at h2
      have hlen : m.length ≤ 9223372036854775807 := by have h1' : m.length ≤ c4 := h1; omega
      clear h3 h4 s3 s4 s1
      go_wp2
      go_loopw [72] (fun i wr => ∃ (k : Nat), k ≤ m.length ∧ i = .int .i64 k ∧ Below w4.heap.size w4 wr) (fun i _ => m.length - (intOf i).toNat)
      case atStart => exact ⟨0, Nat.zero_le _, rfl, Below.refl _ _⟩
      case round =>
        obtain ⟨k, hk, rfl, hB⟩ := hrel
        by_cases hlt : k < m.length
        · obtain ⟨bb, o, rfl, hbn, hcell⟩ := M4.out (by omega)
          obtain ⟨x, hx⟩ : ∃ x, m[k]? = some x := ⟨_, List.getElem?_eq_getElem hlt⟩
          obtain ⟨y, hy⟩ : ∃ y, m[0]? = some y := ⟨_, List.getElem?_eq_getElem (by omega)⟩
          have kb : ∀ b o, b < w4.heap.size → wr.cell? ⟨b, o, none⟩ = w4.cell? ⟨b, o, none⟩ := fun b o hb => hB.cell (p := ⟨b, o, none⟩) hb
          obtain ⟨u1, c1, r1⟩ := (hcell k x hx).keep (M := wr.heap.size) hbn kb hB.size
          obtain ⟨ua1, uc1, rfl, _⟩ := id r1
          obtain ⟨_, cy, _⟩ := (hcell 0 y hy).keep (M := wr.heap.size) hbn kb hB.size
          have y11 : wr.cell? ⟨bb, o + 11, none⟩ = some (.string (B y.payload)) := by have := cy 11 _ rfl; simpa using this
          have hS4 := S4'.out k y x hy hx
          have k0 : (0 : Int) ≤ (k : Int) := by omega
          have k1' : (k : Int) < (m.length : Int) := by omega
          have bR : bb < wr.heap.size := by have := hB.size; omega
          have q0 : wr.cell? ⟨bb, o + k * 12, none⟩ = some (.int .i64 x.src) := c1 0 _ rfl
          have q1 : wr.cell? ⟨bb, o + k * 12 + 1, none⟩ = some (.int .i64 x.crt) := c1 1 _ rfl
          have q2 : wr.cell? ⟨bb, o + k * 12 + 2, none⟩ = some (.int .i64 x.seq) := c1 2 _ rfl
          have q3 : wr.cell? ⟨bb, o + k * 12 + 3, none⟩ = some (.int .i64 x.off) := c1 3 _ rfl
          have q4 : wr.cell? ⟨bb, o + k * 12 + 4, none⟩ = some (.int .i64 x.tot) := c1 4 _ rfl
          have q5 : wr.cell? ⟨bb, o + k * 12 + 5, none⟩ = some (.int .i64 x.dk) := c1 5 _ rfl
          have q6 : wr.cell? ⟨bb, o + k * 12 + 6, none⟩ = some (.int .i64 x.dn) := c1 6 _ rfl
          have q7 : wr.cell? ⟨bb, o + k * 12 + 7, none⟩ = some (.int .i64 x.life) := c1 7 _ rfl
          have q8 : wr.cell? ⟨bb, o + k * 12 + 8, none⟩ = some (.int .i64 x.prio) := c1 8 _ rfl
          have q9 : wr.cell? ⟨bb, o + k * 12 + 9, none⟩ = some (.int .i64 x.flags) := c1 9 _ rfl
          have q10 : wr.cell? ⟨bb, o + k * 12 + 10, none⟩ = some (.slice ua1 x.blocks.length uc1) := c1 10 _ rfl
          have q11 : wr.cell? ⟨bb, o + k * 12 + 11, none⟩ = some (.string (B x.payload)) := c1 11 _ rfl
          obtain ⟨yv, _⟩ := (parts_valid (b := b) (n := n) (p := true) (by rw [HM.out])).2 y (by rw [HM.out]; exact List.mem_of_getElem? hy)
          obtain ⟨_, _, _, _, y5, _⟩ := valid_facts yv
          have hw : IntKind.i64.wrap ((y.payload.length : Int) - 1) = (y.payload.length : Int) - 1 := by rw [IntKind.wrap_i64]; omega
          have hn1 : ¬ ((x.payload.length : Int) < (y.payload.length : Int) - 1) := by omega
          by_cases hkz : k = 0
          · have hkn : decide ((0 : Int) < (k : Int)) = false := decide_eq_false (by omega)
            have hkn2 : decide (0 < k) = false := decide_eq_false (by omega)
            clear cy c1 r1 hx hy hkz kb hcell
            go_wp2
            refine wp_region_plan (fun V => (∀ o, V.cell? ⟨wr.heap.size, o, none⟩ = (bunC x (.slice ua1 x.blocks.length uc1)).toArray[o]?) ∧ V.cell? ⟨bb, o + 11, none⟩ = some (.string (B y.payload))) [0, 0, 0, 0, 1, 0, 0, 0, 0, 0, 0, 1, 0, 0, 0, 0, 0, 1, 0, 0, 0, 0, 1, 0, 0, 0, 0] [0, 1, 2, 3, 4, 5, 6, 7, 8, 9, 10, 11, 12, 13, 14, 15, 16, 17, 18, 19, 20, 21, 22, 23, 24, 25, 26] (by kernel_rfl) (by kernel_rfl) ?_ ?_
            case refine_1 => exact ⟨fun o => by rw [World.cell?_drew]; exact cellB heap_new o, by rw [World.cell?_drew]; exact (World.cell?_alloc_lt _ _ _ bR).trans y11⟩
            (iterate 3 (refine plan_held rfl (by decide) (by rfl) (fun w1 hS => by (try (have hS := hS rfl; obtain hS := hS; repeat (obtain ⟨_, hS⟩ := hS))); go_simp; rfl) ?_; simp only [Act.put, List.setIfInBounds_toArray, List.set_cons_zero, List.set_cons_succ]))
            iterate 11 (refine plan_skip rfl (by decide) (by rfl) ?_; simp only [Act.put, List.setIfInBounds_toArray, List.set_cons_zero, List.set_cons_succ])
            (iterate 13 (refine plan_held rfl (by decide) (by rfl) (fun w1 hS => by (try (have hS := hS rfl; obtain hS := hS; repeat (obtain ⟨_, hS⟩ := hS))); go_simp; rfl) ?_; simp only [Act.put, List.setIfInBounds_toArray, List.set_cons_zero, List.set_cons_succ]))
            refine plan_done ?_
            go_wp2
            go_roundw
            case rel => exact ⟨k + 1, by omega, by go_num, by clear HBw hB4; exact (by repeat' (first | (with_reducible refine bset ?_ ?_) | (with_reducible exact Below.refl _ _) | (with_reducible assumption) | (with_reducible refine bdrewN ?_ _) | (with_reducible refine bdrew ?_) | (with_reducible refine balloc0 ?_) | (with_reducible refine balloc ?_ ?_) | (with_reducible apply btrans0; rotate_left; with_reducible assumption) | (with_reducible apply btrans; rotate_left; with_reducible assumption) | exact Below.refl _ _ | assumption | (apply btrans0; rotate_left; assumption) | (apply btrans; rotate_left; assumption) | (simp; done) | omega | (simp; omega)))⟩
            case measure => simp [intOf]; omega
          · obtain ⟨j, hj⟩ : ∃ j, k = j + 1 := ⟨k - 1, by omega⟩
            have hkp : decide ((0 : Int) < (k : Int)) = true := decide_eq_true (by omega)
            have hkp2 : decide (0 < k) = true := decide_eq_true (by omega)
            obtain ⟨z, hz⟩ : ∃ z, m[j]? = some z := ⟨_, List.getElem?_eq_getElem (by omega)⟩
            have hS3 := S3.out j z x hz (by rw [← hj]; exact hx)
            obtain ⟨_, cz, _⟩ := (hcell j z hz).keep (M := wr.heap.size) hbn kb hB.size
            have z11 : wr.cell? ⟨bb, o + j * 12 + 11, none⟩ = some (.string (B z.payload)) := cz 11 _ rfl
            have hn2 : decide ((z.payload.length : Int) < (x.payload.length : Int)) = false := decide_eq_false (by omega)
            have hn3 : decide (z.payload.length < x.payload.length) = false := decide_eq_false (by omega)
            have hwj : IntKind.i64.wrap ((k : Int) - 1) = (j : Int) := by rw [IntKind.wrap_i64]; omega
            have hj0 : (0 : Int) ≤ (j : Int) := by omega
            have hj1 : (j : Int) < (m.length : Int) := by omega
            clear cy c1 r1 hx hy cz hz hj hkz kb hcell
            go_wp2
            refine wp_region_plan (fun V => (∀ o, V.cell? ⟨wr.heap.size, o, none⟩ = (bunC x (.slice ua1 x.blocks.length uc1)).toArray[o]?) ∧ V.cell? ⟨bb, o + 11, none⟩ = some (.string (B y.payload)) ∧ V.cell? ⟨bb, o + j * 12 + 11, none⟩ = some (.string (B z.payload))) [0, 0, 0, 0, 1, 0, 0, 0, 0, 0, 0, 1, 0, 0, 0, 0, 0, 1, 0, 0, 0, 0, 1, 0, 0, 0, 0] [0, 1, 2, 3, 4, 5, 6, 7, 8, 9, 10, 11, 12, 13, 14, 15, 16, 17, 18, 19, 20, 21, 22, 23, 24, 25, 26] (by kernel_rfl) (by kernel_rfl) ?_ ?_
            case refine_1 => exact ⟨fun o => by rw [World.cell?_drew]; exact cellB heap_new o, by rw [World.cell?_drew]; exact (World.cell?_alloc_lt _ _ _ bR).trans y11, by rw [World.cell?_drew]; exact (World.cell?_alloc_lt _ _ _ bR).trans z11⟩
            (iterate 27 (refine plan_held rfl (by decide) (by rfl) (fun w1 hS => by (try (have hS := hS rfl; obtain hS := hS; repeat (obtain ⟨_, hS⟩ := hS))); go_simp; rfl) ?_; simp only [Act.put, List.setIfInBounds_toArray, List.set_cons_zero, List.set_cons_succ]))
            refine plan_done ?_
            go_wp2
            go_roundw
            case rel => exact ⟨k + 1, by omega, by go_num, by clear HBw hB4; exact (by repeat' (first | (with_reducible refine bset ?_ ?_) | (with_reducible exact Below.refl _ _) | (with_reducible assumption) | (with_reducible refine bdrewN ?_ _) | (with_reducible refine bdrew ?_) | (with_reducible refine balloc0 ?_) | (with_reducible refine balloc ?_ ?_) | (with_reducible apply btrans0; rotate_left; with_reducible assumption) | (with_reducible apply btrans; rotate_left; with_reducible assumption) | exact Below.refl _ _ | assumption | (apply btrans0; rotate_left; assumption) | (apply btrans; rotate_left; assumption) | (simp; done) | omega | (simp; omega)))⟩
            case measure => simp [intOf]; omega
        · obtain rfl : k = m.length := by omega
          have e1 := S1.out
          clear S3 S4' M4
          subst e1
          go_wp2_with fail
          refine (awake_any _).mono ?_
          rintro e w5 ⟨rfl, hb5⟩
          go_wp2
          go_ret
          exact ⟨rfl, (by repeat' (first | (with_reducible refine bset ?_ ?_) | (with_reducible exact Below.refl _ _) | (with_reducible assumption) | (with_reducible refine bdrewN ?_ _) | (with_reducible refine bdrew ?_) | (with_reducible refine balloc0 ?_) | (with_reducible refine balloc ?_ ?_) | (with_reducible apply btrans0; rotate_left; with_reducible assumption) | (with_reducible apply btrans; rotate_left; with_reducible assumption) | exact Below.refl _ _ | assumption | (apply btrans0; rotate_left; assumption) | (apply btrans; rotate_left; assumption) | (simp; done) | omega | (simp; omega)))⟩

set_option maxRecDepth 100000 in
theorem lifted (os : Os) (started : os.Started) (H : Type) (enc : TypeId × Value → H) :
    ReturnsInHanded {} Try.checked os 4 .any (Rows.fragmentSizesSpec.pre6 enc Try.prog Try.f4 Rows.fragmentSizesRow.domain false) (Rows.fragmentSizesSpec.post enc Try.prog Try.f4 false true false false) := by
  refine returnsInHanded_of_change (C := Try.checked) own started (by kernel_rfl) Try.func4
    (ChangeSpec.witness6 (enc := enc) (C := Try.checked) false ⟨#[], #[.agg bun0, .int .i64 0], []⟩ 8 (by kernel_rfl) (by kernel_rfl) (by kernel_rfl) (by kernel_rfl)) ?_
  intro W base args ds gs before hval0 hW hcnd _
  have hval : ∀ (j : Nat) t v, Try.f4.params[j]? = some t → args[j]? = some v → Value.okWide Try.prog W .any base t v := hval0
  have hW' := hW
  obtain ⟨p, q, hA0, hV, rfl, hfz, hnd⟩ := hW
  have hA : DataW.TrodAll enc Try.prog W 0 (fun _ => true) true Try.f4.params.toList args.toList ds p := hA0
  rw [Try.params4] at hA hval
  obtain ⟨v0, vs0, d0, ds0, p0, q0, hargs, rfl, rfl, h0, r0⟩ := trodAll_cons hA
  obtain ⟨v1, vs1, d1, ds1, p1, q1, rfl, rfl, rfl, h1, r1⟩ := trodAll_cons r0
  obtain ⟨rfl, rfl, rfl⟩ := trodAll_nil r1
  obtain rfl : args = #[v0, v1] := by cases args; simp_all
  obtain ⟨b, u, rfl, hr, hf⟩ := open_bun (hval 0 28 v0 rfl rfl) h0
  obtain ⟨x1, rfl, _, _, wx1⟩ := open_int Try.underlying3 (hval 1 3 v1 rfl rfl) h1
  refine (walk b u x1 W hr hf).mono fun e W' ⟨he, hB⟩ => ?_
  subst he
  refine ⟨_, rfl, law_post (by kernel_rfl) (by kernel_rfl) rfl Try.underlying4 rfl ?_ hW' hB⟩
  intro es hes
  match es, hes with
  | [_, _], _ => rfl

theorem proved : Rows.FragmentSizesSaid :=
  OpenClaim.holds_of_wide 4 Try.f4 rfl rfl rfl rfl rfl rfl rfl ⟨rfl, rfl, rfl, rfl, rfl⟩ rfl rfl rfl rfl rfl (by kernel_rfl) Try.func4 (by kernel_rfl)
    (of_decide_eq_true (by kernel_rfl)) (by unfold Func.isWrapper; first | (rw [if_pos (by decide +kernel)]; kernel_rfl) | (rw [if_neg (by decide +kernel)]; exact ⟨rfl, rfl⟩))
    (fun os started H enc _ => lifted os started H enc)
#print axioms proved
end Go.Proofs.Ytibfchdhppdccaa.fragmentSizes
