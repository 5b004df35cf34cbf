/-
  Proved: mailboatlaw17.FragmentBlocks returns true for every input, and leaves its arguments as they were. No condition.
-/
import Derived.Test.YtibfchdhppdccaaRows
import Derived.Test.YtibfchdhppdccaaGo
import Derived.Test.YtibfchdhppdccaaGq
import Derived.Test.YtibfchdhppdccaaFe
import Derived.Test.YtibfchdhppdccaaQd
import Derived.Test.YtibfchdhppdccaaOb
import Derived.Test.YtibfchdhppdccaaR
import Derived.Test.YtibfchdhppdccaaL
set_option linter.unusedVariables false
set_option linter.unusedSimpArgs false
namespace Go.Proofs.Ytibfchdhppdccaa.fragmentBlocks
open Go Go.ChangeShapes Go.WideShapes Go.ChangeAt Go.RowKit Go.Joins Go.Proofs.Ytibfchdhppdccaa
attribute [local go_sem] B_getElem B_size B_app B_extract B_get B_toList
attribute [local go_sem] bunC
attribute [local go_sem ↓] eqBlk eqId eqEnd

theorem own : ownKnob Try.prog.godebug = none := by kernel_rfl

set_option maxRecDepth 100000 in
set_option maxHeartbeats 1600000 in
theorem walk (b : Bun) (u : Value) (n : Int) (w : World) (h : RBlks w w.heap.size u b.blocks) (hf : Fits b) :
    Calls Try.prog 5 #[.agg (bunC b u).toArray, .int .i64 n] w (Says w) := by
  obtain ⟨⟨l, E⟩, hl⟩ : ∃ x, partsR b n true = x := ⟨_, rfl⟩
  have HL := Lib.hid hl
  clear hl
  obtain ⟨ua, uc, rfl, _⟩ := id h
  have HR := Lib.hid h
  have HF := Lib.hid hf
  clear h hf
  go_enter Try.func5, Try.ntmps5
  simp only [bunC]
  go_wp2_with fail
  refine (lawGreat_any b _ _ (HR.out.below (C := w.heap.size) (by repeat' (first | (with_reducible refine bset ?_ ?_) | (with_reducible exact Below.refl _ _) | (with_reducible assumption) | (with_reducible refine bdrewN ?_ _) | (with_reducible refine bdrew ?_) | (with_reducible refine balloc0 ?_) | (with_reducible refine balloc ?_ ?_) | (with_reducible apply btrans0; rotate_left; with_reducible assumption) | (with_reducible apply btrans; rotate_left; with_reducible assumption) | exact Below.refl _ _ | assumption | (apply btrans0; rotate_left; assumption) | (apply btrans; rotate_left; assumption) | (simp; done) | omega | (simp; omega))) (Nat.le_refl _) (by simp)) HF.out).mono ?_
  rintro e w1 ⟨g, rfl, hb1⟩
  obtain ⟨k1, f1⟩ := bcell hb1
  have z1 : w.heap.size < w1.heap.size := by have := hb1.size; simp at this; omega
  cases g
  case true =>
    go_wp2_with fail
    refine (awake_any _).mono ?_
    rintro e w2 ⟨rfl, hb2⟩
    go_wp2
    go_ret
    exact ⟨rfl, (by repeat' (first | (with_reducible refine bset ?_ ?_) | (with_reducible exact Below.refl _ _) | (with_reducible assumption) | (with_reducible refine bdrewN ?_ _) | (with_reducible refine bdrew ?_) | (with_reducible refine balloc0 ?_) | (with_reducible refine balloc ?_ ?_) | (with_reducible apply btrans0; rotate_left; with_reducible assumption) | (with_reducible apply btrans; rotate_left; with_reducible assumption) | exact Below.refl _ _ | assumption | (apply btrans0; rotate_left; assumption) | (apply btrans; rotate_left; assumption) | (simp; done) | omega | (simp; omega)))⟩
  have hB1 : Below w.heap.size w w1 := (by repeat' (first | (with_reducible refine bset ?_ ?_) | (with_reducible exact Below.refl _ _) | (with_reducible assumption) | (with_reducible refine bdrewN ?_ _) | (with_reducible refine bdrew ?_) | (with_reducible refine balloc0 ?_) | (with_reducible refine balloc ?_ ?_) | (with_reducible apply btrans0; rotate_left; with_reducible assumption) | (with_reducible apply btrans; rotate_left; with_reducible assumption) | exact Below.refl _ _ | assumption | (apply btrans0; rotate_left; assumption) | (apply btrans; rotate_left; assumption) | (simp; done) | omega | (simp; omega)))
  have G1 : w1.heap[w.heap.size]? = some (.cells (bunC b (.slice ua b.blocks.length uc)).toArray 28 (0, 0)) := (hb1.block _ (by simp)).trans heap_new
  clear k1 f1
  have ca := fun o => cellB G1 o
  simp only [bunC] at ca
  go_wp2_with fail
  clear ca
  refine (parts_any b _ n true w.heap.size _ (by omega) (HR.out.below (C := w.heap.size) hB1 (Nat.le_refl _) (Nat.le_refl _)) HF.out).mono ?_
  rw [HL.out]
  rintro e w2 ⟨a2, c2, rfl, r2, hb2⟩
  have l2 : w1.heap.size ≤ w2.heap.size := hb2.size
  have z2 : w.heap.size < w2.heap.size := by omega
  have hB2 : Below w.heap.size w w2 := (by repeat' (first | (with_reducible refine bset ?_ ?_) | (with_reducible exact Below.refl _ _) | (with_reducible assumption) | (with_reducible refine bdrewN ?_ _) | (with_reducible refine bdrew ?_) | (with_reducible refine balloc0 ?_) | (with_reducible refine balloc ?_ ?_) | (with_reducible apply btrans0; rotate_left; with_reducible assumption) | (with_reducible apply btrans; rotate_left; with_reducible assumption) | exact Below.refl _ _ | assumption | (apply btrans0; rotate_left; assumption) | (apply btrans; rotate_left; assumption) | (simp; done) | omega | (simp; omega)))
  have G2 := (hb2.block w.heap.size (by omega)).trans G1
  clear hb2 hb1 hB1 G1
  by_cases hE : E = 0
  case neg =>
    have hE' : decide (E = 0) = false := by simpa using hE
    simp only [hE']
    go_wp2_with fail
    refine (awake_any _).mono ?_
    rintro e w3 ⟨rfl, hb3⟩
    go_wp2
    go_ret
    exact ⟨rfl, (by repeat' (first | (with_reducible refine bset ?_ ?_) | (with_reducible exact Below.refl _ _) | (with_reducible assumption) | (with_reducible refine bdrewN ?_ _) | (with_reducible refine bdrew ?_) | (with_reducible refine balloc0 ?_) | (with_reducible refine balloc ?_ ?_) | (with_reducible apply btrans0; rotate_left; with_reducible assumption) | (with_reducible apply btrans; rotate_left; with_reducible assumption) | exact Below.refl _ _ | assumption | (apply btrans0; rotate_left; assumption) | (apply btrans; rotate_left; assumption) | (simp; done) | omega | (simp; omega)))⟩
  subst hE
  simp only [decide_true]
  have hcs := parts_cases b n true
  rw [HL.out] at hcs
  have hv : chkE b = 0 := by
    rcases hcs with ⟨h, _⟩ | ⟨_, h, _⟩
    · exact absurd rfl h
    · exact h
  have HVB := Lib.hid (valid_blocks hv)
  obtain ⟨_, _, _, _, _, _, _, v8, _⟩ := valid_facts hv
  have PB := Lib.hid (fun h2 => pieces_blocks (b := b) (n := n) (l := l) (by have := HL.out; unfold partsR at this; rwa [if_pos rfl] at this) h2)
  clear hcs hv
  obtain ⟨a', c', e', h1, h2, h3, h4⟩ := r2
  injection e' with e1 _ e2
  subst e1 e2
  have H4 := Lib.hid h4
  unfold maxLen at h2
  have hlen : l.length ≤ 9223372036854775807 := by have h1' : l.length ≤ c2 := h1; omega
  clear h3 h4
  by_cases hL2 : l.length < 2
  · have hL3 : (l.length : Int) < 2 := by omega
    go_wp2_with fail
    refine (awake_any _).mono ?_
    rintro e w3 ⟨rfl, hb3⟩
    go_wp2
    go_ret
    exact ⟨rfl, (by repeat' (first | (with_reducible refine bset ?_ ?_) | (with_reducible exact Below.refl _ _) | (with_reducible assumption) | (with_reducible refine bdrewN ?_ _) | (with_reducible refine bdrew ?_) | (with_reducible refine balloc0 ?_) | (with_reducible refine balloc ?_ ?_) | (with_reducible apply btrans0; rotate_left; with_reducible assumption) | (with_reducible apply btrans; rotate_left; with_reducible assumption) | exact Below.refl _ _ | assumption | (apply btrans0; rotate_left; assumption) | (apply btrans; rotate_left; assumption) | (simp; done) | omega | (simp; omega)))⟩
  have hL3 : ¬ (l.length : Int) < 2 := by omega
  obtain ⟨ub, uc', e', huc, hum, _, hcb⟩ := id HR.out
  injection e' with e1 _ e2
  subst e1 e2
  have HCL := Lib.hid hcb
  unfold maxLen at hum
  obtain ⟨i0, hin, hz0, hz1, hz2⟩ := info_parts infoBlk
  have ca := fun o => cellB G2 o
  simp only [bunC] at ca
  clear hcb
  go_wp2
  clear ca
  go_loopw [33, 7] (fun c s wr => ∃ (k n' : Nat) (vo : Value), s = vo ∧ k ≤ b.blocks.length ∧ c = .int .i64 k ∧ n' ≤ k ∧ wr.ownsRow w2.heap.size 40 3 vo n' (((b.blocks.take k).filter keepC).flatMap blkC) ∧ Below w2.heap.size w2 wr) (fun c _ _ => b.blocks.length - (intOf c).toNat)
  case atStart => exact ⟨0, 0, _, rfl, Nat.zero_le _, rfl, Nat.le_refl _, World.ownsRow_nil _ _ _ _, Below.refl _ _⟩
  case round =>
    obtain ⟨k, n', vo, e7, hk, rfl, hn, hown, hB⟩ := hrel
    have e7' := e7.symm
    clear e7
    subst e7'
    have HBw : Below w.heap.size w wr := (by repeat' (first | (with_reducible refine bset ?_ ?_) | (with_reducible exact Below.refl _ _) | (with_reducible assumption) | (with_reducible refine bdrewN ?_ _) | (with_reducible refine bdrew ?_) | (with_reducible refine balloc0 ?_) | (with_reducible refine balloc ?_ ?_) | (with_reducible apply btrans0; rotate_left; with_reducible assumption) | (with_reducible apply btrans; rotate_left; with_reducible assumption) | exact Below.refl _ _ | assumption | (apply btrans0; rotate_left; assumption) | (apply btrans; rotate_left; assumption) | (simp; done) | omega | (simp; omega)))
    by_cases hlt : k < b.blocks.length
    · obtain ⟨bb, o, rfl, hbn, hcell⟩ := HCL.out (by omega)
      obtain ⟨x, hx⟩ : ∃ x, b.blocks[k]? = some x := ⟨_, List.getElem?_eq_getElem hlt⟩
      obtain ⟨c1, c2', c3⟩ := (hcell k x hx).keep (fun o => HBw.cell (p := ⟨bb, o, none⟩) (by show bb < _; omega))
      have hbr : bb < wr.heap.size := by have := HBw.size; omega
      have HX := Lib.hid hx
      have k0 : (0 : Int) ≤ (k : Int) := by omega
      have k1 : (k : Int) < (b.blocks.length : Int) := by omega
      obtain ⟨f1, f2⟩ := HVB.out x (List.mem_of_getElem? hx)
      obtain ⟨q, hq⟩ : ∃ q, keepC x = q := ⟨_, rfl⟩
      have HQ := Lib.hid hq
      have hbit : (bits .and .i64 x.flags 1 != 0) = q := by
        rw [← hq]
        unfold keepC
        obtain ⟨m, hm⟩ : ∃ m : Nat, x.flags = m := ⟨x.flags.toNat, by omega⟩
        have h : ∀ n : Fin 16, (bits .and .i64 (n.val : Int) 1 != 0) = ((n.val : Int) % 2 == 1) := by decide +kernel
        have := h ⟨m, by omega⟩
        rw [hm]; exact this
      clear hcell hx hq
      cases q with
      | false =>
        go_wp2
        go_roundw
        case rel => exact ⟨k + 1, n', _, rfl, by omega, by go_num, by omega, by rw [flat_skip HX.out HQ.out]; exact hown.alloc _, by clear HBw hB2; exact (by repeat' (first | (with_reducible refine bset ?_ ?_) | (with_reducible exact Below.refl _ _) | (with_reducible assumption) | (with_reducible refine bdrewN ?_ _) | (with_reducible refine bdrew ?_) | (with_reducible refine balloc0 ?_) | (with_reducible refine balloc ?_ ?_) | (with_reducible apply btrans0; rotate_left; with_reducible assumption) | (with_reducible apply btrans; rotate_left; with_reducible assumption) | exact Below.refl _ _ | assumption | (apply btrans0; rotate_left; assumption) | (apply btrans; rotate_left; assumption) | (simp; done) | omega | (simp; omega)))⟩
        case measure => simp [intOf]; omega
      | true =>
        go_wp2_with (at_builtin; refine wpList_append_lies _ rfl _ _ _ rfl w2.heap.size 40 i0 _ 3 32 Try.underlying26 hin hz0 hz1 hz2 rfl (by omega) vo n' _ rfl ((hown.alloc _).alloc _) ⟨wr.heap.size + 1, 0, none⟩ 1 1 (blkC x) rfl rfl (news_one (t := 40) (by exact heap_new' (by simp))) (blkC_one x) (by omega) (by simp only [maxLen]; omega) (by omega) (by simp; have := hB.size; omega) (wr.heap.size + 1 + 1) (by simp) ?_; intro g cap w5 hown5 hg5 hat5 hlt5)
        have hB4 : Below w2.heap.size w2 w5 := (balloc (balloc hB hB.size) (by have := hB.size; simp; omega)).grown hg5 (by have := hB.size; simp; omega) (fun q hq => (hown.lt q hq).1)
        have HO := Lib.hid hown5
        clear hown5 hg5 hat5 hown
        go_wp2
        go_roundw
        case rel => exact ⟨k + 1, n' + 1, _, rfl, by omega, by go_num, by omega, by rw [flat_snoc HX.out HQ.out]; exact HO.out, by clear HBw hB2 hB; exact (by repeat' (first | (with_reducible refine bset ?_ ?_) | (with_reducible exact Below.refl _ _) | (with_reducible assumption) | (with_reducible refine bdrewN ?_ _) | (with_reducible refine bdrew ?_) | (with_reducible refine balloc0 ?_) | (with_reducible refine balloc ?_ ?_) | (with_reducible apply btrans0; rotate_left; with_reducible assumption) | (with_reducible apply btrans; rotate_left; with_reducible assumption) | exact Below.refl _ _ | assumption | (apply btrans0; rotate_left; assumption) | (apply btrans; rotate_left; assumption) | (simp; done) | omega | (simp; omega)))⟩
        case measure => simp [intOf]; omega
    · obtain rfl : k = b.blocks.length := by omega
      have hcp : RBlks wr wr.heap.size vo (b.blocks.filter keepC) := by
        have h1 := RBlks.of_own hown
        rwa [List.take_length] at h1
      have HCP := Lib.hid hcp
      have NW := (hB.block w.heap.size (by omega)).trans G2
      have z3 : w2.heap.size ≤ wr.heap.size := hB.size
      clear hown hcp hk hlt HCL HVB
      obtain ⟨W3, hW3⟩ : ∃ W3, W3 = wr := ⟨wr, rfl⟩
      subst hW3
      go_wp2
      go_loopw [48] (fun i wr => ∃ (k : Nat), k ≤ l.length ∧ i = .int .i64 k ∧ Below W3.heap.size W3 wr) (fun i _ => l.length - (intOf i).toNat)
      case atStart => exact ⟨0, Nat.zero_le _, rfl, Below.refl _ _⟩
      case round =>
        obtain ⟨k, hk, rfl, hC⟩ := hrel
        have MW := (hC.block w.heap.size (by omega)).trans NW
        have z4 : W3.heap.size ≤ wr.heap.size := hC.size
        have z5 : w.heap.size < wr.heap.size := by omega
        by_cases hlt : k < l.length
        · obtain ⟨bb, o, rfl, hbn, hcell⟩ := H4.out (by omega)
          obtain ⟨x, hx⟩ : ∃ x, l[k]? = some x := ⟨_, List.getElem?_eq_getElem hlt⟩
          obtain ⟨u1, c1, r1⟩ := (hcell k x hx).keep (M := wr.heap.size) hbn (fun b o hb => (hC.cell (p := ⟨b, o, none⟩) (by show b < _; omega)).trans (hB.cell (p := ⟨b, o, none⟩) hb)) (by omega)
          obtain ⟨ua1, uc1, rfl, _⟩ := id r1
          have hPB := PB.out (by omega) x (List.mem_of_getElem? hx)
          have RX := Lib.hid r1
          have k0 : (0 : Int) ≤ (k : Int) := by omega
          have k1' : (k : Int) < (l.length : Int) := by omega
          have bR : bb < wr.heap.size := by omega
          have q0 : wr.cell? ⟨bb, o + k * 12, none⟩ = some (.int .i64 x.src) := c1 0 _ rfl
          have q1 : wr.cell? ⟨bb, o + k * 12 + 1, none⟩ = some (.int .i64 x.crt) := c1 1 _ rfl
          have q2 : wr.cell? ⟨bb, o + k * 12 + 2, none⟩ = some (.int .i64 x.seq) := c1 2 _ rfl
          have q3 : wr.cell? ⟨bb, o + k * 12 + 3, none⟩ = some (.int .i64 x.off) := c1 3 _ rfl
          have q4 : wr.cell? ⟨bb, o + k * 12 + 4, none⟩ = some (.int .i64 x.tot) := c1 4 _ rfl
          have q5 : wr.cell? ⟨bb, o + k * 12 + 5, none⟩ = some (.int .i64 x.dk) := c1 5 _ rfl
          have q6 : wr.cell? ⟨bb, o + k * 12 + 6, none⟩ = some (.int .i64 x.dn) := c1 6 _ rfl
          have q7 : wr.cell? ⟨bb, o + k * 12 + 7, none⟩ = some (.int .i64 x.life) := c1 7 _ rfl
          have q8 : wr.cell? ⟨bb, o + k * 12 + 8, none⟩ = some (.int .i64 x.prio) := c1 8 _ rfl
          have q9 : wr.cell? ⟨bb, o + k * 12 + 9, none⟩ = some (.int .i64 x.flags) := c1 9 _ rfl
          have q10 : wr.cell? ⟨bb, o + k * 12 + 10, none⟩ = some (.slice ua1 x.blocks.length uc1) := c1 10 _ rfl
          have q11 : wr.cell? ⟨bb, o + k * 12 + 11, none⟩ = some (.string (B x.payload)) := c1 11 _ rfl
          clear hcell hx c1 r1
          have ca := fun o => cellB MW o
          simp only [bunC] at ca
          have HBz : Below w.heap.size w wr := (by repeat' (first | (with_reducible refine bset ?_ ?_) | (with_reducible exact Below.refl _ _) | (with_reducible assumption) | (with_reducible refine bdrewN ?_ _) | (with_reducible refine bdrew ?_) | (with_reducible refine balloc0 ?_) | (with_reducible refine balloc ?_ ?_) | (with_reducible apply btrans0; rotate_left; with_reducible assumption) | (with_reducible apply btrans; rotate_left; with_reducible assumption) | exact Below.refl _ _ | assumption | (apply btrans0; rotate_left; assumption) | (apply btrans; rotate_left; assumption) | (simp; done) | omega | (simp; omega)))
          by_cases hz : x.off = 0
          · have hz' : (x.off == 0) = true := beq_iff_eq.2 hz
            have HPB : Hid (x.blocks = b.blocks) := Lib.hid (by rw [hPB, if_pos hz])
            clear hz hPB
            go_wp2_with fail
            refine (sameBlocks_any x.blocks _ _ _ (RX.out.below (C := wr.heap.size) (balloc0 (Below.refl _ _)) (Nat.le_refl _) (by simp)) (by rw [HPB.out]; exact HR.out.below (C := w.heap.size) (balloc HBz (by omega)) (Nat.le_refl _) (by simp; omega))).mono ?_
            rintro e w5 ⟨rfl, hb5⟩
            go_wp2
            go_roundw
            case rel => exact ⟨k + 1, by omega, by go_num, by clear HBw HBz hB hB2; exact (by repeat' (first | (with_reducible refine bset ?_ ?_) | (with_reducible exact Below.refl _ _) | (with_reducible assumption) | (with_reducible refine bdrewN ?_ _) | (with_reducible refine bdrew ?_) | (with_reducible refine balloc0 ?_) | (with_reducible refine balloc ?_ ?_) | (with_reducible apply btrans0; rotate_left; with_reducible assumption) | (with_reducible apply btrans; rotate_left; with_reducible assumption) | exact Below.refl _ _ | assumption | (apply btrans0; rotate_left; assumption) | (apply btrans; rotate_left; assumption) | (simp; done) | omega | (simp; omega)))⟩
            case measure => simp [intOf]; omega
          · have hz' : (x.off == 0) = false := beq_eq_false_iff_ne.2 hz
            have HPB : Hid (x.blocks = b.blocks.filter keepC) := Lib.hid (by rw [hPB, if_neg hz])
            clear hz hPB
            go_wp2_with fail
            refine (sameBlocks_any x.blocks _ _ _ (RX.out.below (C := wr.heap.size) (balloc0 (Below.refl _ _)) (Nat.le_refl _) (by simp)) (by rw [HPB.out]; exact HCP.out.below (C := W3.heap.size) (balloc hC (by omega)) (Nat.le_refl _) (by simp; omega))).mono ?_
            rintro e w5 ⟨rfl, hb5⟩
            go_wp2
            go_roundw
            case rel => exact ⟨k + 1, by omega, by go_num, by clear HBw HBz hB hB2; exact (by repeat' (first | (with_reducible refine bset ?_ ?_) | (with_reducible exact Below.refl _ _) | (with_reducible assumption) | (with_reducible refine bdrewN ?_ _) | (with_reducible refine bdrew ?_) | (with_reducible refine balloc0 ?_) | (with_reducible refine balloc ?_ ?_) | (with_reducible apply btrans0; rotate_left; with_reducible assumption) | (with_reducible apply btrans; rotate_left; with_reducible assumption) | exact Below.refl _ _ | assumption | (apply btrans0; rotate_left; assumption) | (apply btrans; rotate_left; assumption) | (simp; done) | omega | (simp; omega)))⟩
            case measure => simp [intOf]; omega
        · obtain rfl : k = l.length := by omega
          have HBz : Below w.heap.size w wr := (by repeat' (first | (with_reducible refine bset ?_ ?_) | (with_reducible exact Below.refl _ _) | (with_reducible assumption) | (with_reducible refine bdrewN ?_ _) | (with_reducible refine bdrew ?_) | (with_reducible refine balloc0 ?_) | (with_reducible refine balloc ?_ ?_) | (with_reducible apply btrans0; rotate_left; with_reducible assumption) | (with_reducible apply btrans; rotate_left; with_reducible assumption) | exact Below.refl _ _ | assumption | (apply btrans0; rotate_left; assumption) | (apply btrans; rotate_left; assumption) | (simp; done) | omega | (simp; omega)))
          clear hB2 HBw hB hC
          go_wp2_with fail
          refine (awake_any _).mono ?_
          rintro e w5 ⟨rfl, hb5⟩
          go_wp2
          go_ret
          exact ⟨rfl, (by repeat' (first | (with_reducible refine bset ?_ ?_) | (with_reducible exact Below.refl _ _) | (with_reducible assumption) | (with_reducible refine bdrewN ?_ _) | (with_reducible refine bdrew ?_) | (with_reducible refine balloc0 ?_) | (with_reducible refine balloc ?_ ?_) | (with_reducible apply btrans0; rotate_left; with_reducible assumption) | (with_reducible apply btrans; rotate_left; with_reducible assumption) | exact Below.refl _ _ | assumption | (apply btrans0; rotate_left; assumption) | (apply btrans; rotate_left; assumption) | (simp; done) | omega | (simp; omega)))⟩

set_option maxRecDepth 100000 in
theorem lifted (os : Os) (started : os.Started) (H : Type) (enc : TypeId × Value → H) :
    ReturnsInHanded {} Try.checked os 5 .any (Rows.fragmentBlocksSpec.pre6 enc Try.prog Try.f5 Rows.fragmentBlocksRow.domain false) (Rows.fragmentBlocksSpec.post enc Try.prog Try.f5 false true false false) := by
  refine returnsInHanded_of_change (C := Try.checked) own started (by kernel_rfl) Try.func5
    (ChangeSpec.witness6 (enc := enc) (C := Try.checked) false ⟨#[], #[.agg bun0, .int .i64 0], []⟩ 8 (by kernel_rfl) (by kernel_rfl) (by kernel_rfl) (by kernel_rfl)) ?_
  intro W base args ds gs before hval0 hW hcnd _
  have hval : ∀ (j : Nat) t v, Try.f5.params[j]? = some t → args[j]? = some v → Value.okWide Try.prog W .any base t v := hval0
  have hW' := hW
  obtain ⟨p, q, hA0, hV, rfl, hfz, hnd⟩ := hW
  have hA : DataW.TrodAll enc Try.prog W 0 (fun _ => true) true Try.f5.params.toList args.toList ds p := hA0
  rw [Try.params5] at hA hval
  obtain ⟨v0, vs0, d0, ds0, p0, q0, hargs, rfl, rfl, h0, r0⟩ := trodAll_cons hA
  obtain ⟨v1, vs1, d1, ds1, p1, q1, rfl, rfl, rfl, h1, r1⟩ := trodAll_cons r0
  obtain ⟨rfl, rfl, rfl⟩ := trodAll_nil r1
  obtain rfl : args = #[v0, v1] := by cases args; simp_all
  obtain ⟨b, u, rfl, hr, hf⟩ := open_bun (hval 0 28 v0 rfl rfl) h0
  obtain ⟨x1, rfl, _, _, wx1⟩ := open_int Try.underlying3 (hval 1 3 v1 rfl rfl) h1
  refine (walk b u x1 W hr hf).mono fun e W' ⟨he, hB⟩ => ?_
  subst he
  refine ⟨_, rfl, law_post (by kernel_rfl) (by kernel_rfl) rfl Try.underlying4 rfl ?_ hW' hB⟩
  intro es hes
  match es, hes with
  | [_, _], _ => rfl

theorem proved : Rows.FragmentBlocksSaid :=
  OpenClaim.holds_of_wide 5 Try.f5 rfl rfl rfl rfl rfl rfl rfl ⟨rfl, rfl, rfl, rfl, rfl⟩ rfl rfl rfl rfl rfl (by kernel_rfl) Try.func5 (by kernel_rfl)
    (of_decide_eq_true (by kernel_rfl)) (by unfold Func.isWrapper; first | (rw [if_pos (by decide +kernel)]; kernel_rfl) | (rw [if_neg (by decide +kernel)]; exact ⟨rfl, rfl⟩))
    (fun os started H enc _ => lifted os started H enc)
#print axioms proved
end Go.Proofs.Ytibfchdhppdccaa.fragmentBlocks
