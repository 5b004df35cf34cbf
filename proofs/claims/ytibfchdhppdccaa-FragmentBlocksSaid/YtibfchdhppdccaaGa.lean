/- Walks of the references' Same.. and Great (layers 13 and 17). -/
import Derived.Test.YtibfchdhppdccaaFn
set_option linter.unusedVariables false
set_option linter.unusedSimpArgs false
namespace Go.Proofs.Ytibfchdhppdccaa
open Go Go.RowKit
attribute [local go_sem] B_getElem B_size B_app B_extract B_get B_toList

theorem eqBlk (k f : Int) (d : List UInt8) (w : World) : Sem.run Try.prog (Go.binOp .neq 40 (.agg #[.int .i64 k, .int .i64 f, .string (B d)]) (.agg #[.int .i64 k, .int .i64 f, .string (B d)])) w = .ok (.bool false) w := by
  go_simp
theorem eqId (a b c d e : Int) (w : World) : Sem.run Try.prog (Go.binOp .eql 23 (.agg #[.int .i64 a, .int .i64 b, .int .i64 c, .int .i64 d, .int .i64 e]) (.agg #[.int .i64 a, .int .i64 b, .int .i64 c, .int .i64 d, .int .i64 e])) w = .ok (.bool true) w := by
  go_simp
theorem eqEnd (a b : Int) (w : World) : Sem.run Try.prog (Go.binOp .eql 25 (.agg #[.int .i64 a, .int .i64 b]) (.agg #[.int .i64 a, .int .i64 b])) w = .ok (.bool true) w := by
  go_simp
attribute [local go_sem ↓] eqBlk eqId eqEnd

def AnyBool (w : World) (e : Ending) (w' : World) : Prop := ∃ g, e = .returned (.bool g) ∧ Below w.heap.size w w'
/-- it says true -/
def Says (w : World) (e : Ending) (w' : World) : Prop := e = .returned (.bool true) ∧ Below w.heap.size w w'

set_option maxRecDepth 100000 in
set_option maxHeartbeats 1000000 in
theorem sameBlocks_any (l : List Blk) (u v : Value) (w : World) (h : RBlks w w.heap.size u l) (k : RBlks w w.heap.size v l) :
    Calls Try.prog 18 #[u, v] w (Says w) := by
  obtain ⟨a, c, rfl, h1, h2, h3, h4⟩ := h
  obtain ⟨a', c', rfl, k1, k2, k3, k4⟩ := k
  unfold maxLen at h2
  have hlen : l.length ≤ 9223372036854775807 := by omega
  have H4 := Lib.hid h4
  have K4 := Lib.hid k4
  clear h3 h4 k3 k4
  go_enter Try.func18, Try.ntmps18
  go_wp2
  go_loopw [5] (fun i wr => ∃ k : Nat, k ≤ l.length ∧ i = .int .i64 k ∧ Below w.heap.size w wr) (fun i _ => l.length - (intOf i).toNat)
  case atStart => exact ⟨0, Nat.zero_le _, rfl, Below.refl _ _⟩
  case round =>
    obtain ⟨k, hk, rfl, hB⟩ := hrel
    by_cases hlt : k < l.length
    · obtain ⟨b, o, rfl, hbn, hcell⟩ := H4.out (by omega)
      obtain ⟨b', o', rfl, hbn', hcell'⟩ := K4.out (by omega)
      obtain ⟨x, hx⟩ : ∃ x, l[k]? = some x := ⟨_, List.getElem?_eq_getElem hlt⟩
      obtain ⟨c1, c2, c3⟩ := (hcell k x hx).keep (fun o => hB.cell (p := ⟨b, o, none⟩) hbn)
      obtain ⟨d1, d2, d3⟩ := (hcell' k x hx).keep (fun o => hB.cell (p := ⟨b', o, none⟩) hbn')
      have k0 : (0 : Int) ≤ (k : Int) := by omega
      have k1' : (k : Int) < (l.length : Int) := by omega
      clear hcell hcell' hx
      go_wp2
      go_quiet (fail)
      go_wp2
      go_roundw
      case rel => exact ⟨k + 1, by omega, by go_num, (by repeat' (first | (with_reducible refine bset ?_ ?_) | (with_reducible exact Below.refl _ _) | (with_reducible assumption) | (with_reducible refine bdrewN ?_ _) | (with_reducible refine bdrew ?_) | (with_reducible refine balloc0 ?_) | (with_reducible refine balloc ?_ ?_) | (with_reducible apply btrans0; rotate_left; with_reducible assumption) | (with_reducible apply btrans; rotate_left; with_reducible assumption) | exact Below.refl _ _ | assumption | (apply btrans0; rotate_left; assumption) | (apply btrans; rotate_left; assumption) | (simp; done) | omega | (simp; omega)))⟩
      case measure => simp [intOf]; omega
    · obtain rfl : k = l.length := by omega
      go_wp2
      go_ret
      exact ⟨rfl, hB⟩

set_option maxRecDepth 100000 in
set_option maxHeartbeats 1000000 in
theorem same_any (b : Bun) (u v : Value) (w : World) (h : RBlks w w.heap.size u b.blocks) (k : RBlks w w.heap.size v b.blocks) :
    Calls Try.prog 24 #[.agg (bunC b u).toArray, .agg (bunC b v).toArray] w (Says w) := by
  have HR := Lib.hid h
  have KR := Lib.hid k
  clear h k
  go_enter Try.func24, Try.ntmps24
  simp only [bunC]
  go_wp2_with fail
  refine (sameBlocks_any b.blocks _ _ _ (HR.out.below (C := w.heap.size) (((Below.refl _ _).alloc (Nat.le_refl _) _).alloc (by simp) _) (Nat.le_refl _) (by simp; omega)) (KR.out.below (C := w.heap.size) (((Below.refl _ _).alloc (Nat.le_refl _) _).alloc (by simp) _) (Nat.le_refl _) (by simp; omega))).mono ?_
  rintro e w1 ⟨rfl, hb1⟩
  obtain ⟨k1, f1⟩ := bcell hb1
  have z1 : w.heap.size + 1 < w1.heap.size := by have := hb1.size; simp at this; omega
  go_wp2
  go_ret
  exact ⟨by simp, (by repeat' (first | (with_reducible refine bset ?_ ?_) | (with_reducible exact Below.refl _ _) | (with_reducible assumption) | (with_reducible refine bdrewN ?_ _) | (with_reducible refine bdrew ?_) | (with_reducible refine balloc0 ?_) | (with_reducible refine balloc ?_ ?_) | (with_reducible apply btrans0; rotate_left; with_reducible assumption) | (with_reducible apply btrans; rotate_left; with_reducible assumption) | exact Below.refl _ _ | assumption | (apply btrans0; rotate_left; assumption) | (apply btrans; rotate_left; assumption) | (simp; done) | omega | (simp; omega)))⟩

set_option maxRecDepth 100000 in
set_option maxHeartbeats 1000000 in
theorem great_any (b : Bun) (u : Value) (w : World) (h : RBlks w w.heap.size u b.blocks) (hf : Fits b) :
    Calls Try.prog 28 #[.agg (bunC b u).toArray] w (AnyBool w) := by
  obtain ⟨a, c, rfl, h1, h2, h3, h4⟩ := h
  have hp := hf.1
  have HFd := Lib.hid hf.2
  unfold maxLen at h2 hp
  have hlen : b.blocks.length ≤ 9223372036854775807 := by omega
  have H4 := Lib.hid h4
  clear h3 h4 hf
  go_enter Try.func28, Try.ntmps28
  simp only [bunC]
  go_wp2
  all_goals first
    | (go_ret; exact ⟨true, rfl, (by repeat' (first | (with_reducible refine bset ?_ ?_) | (with_reducible exact Below.refl _ _) | (with_reducible assumption) | (with_reducible refine bdrewN ?_ _) | (with_reducible refine bdrew ?_) | (with_reducible refine balloc0 ?_) | (with_reducible refine balloc ?_ ?_) | (with_reducible apply btrans0; rotate_left; with_reducible assumption) | (with_reducible apply btrans; rotate_left; with_reducible assumption) | exact Below.refl _ _ | assumption | (apply btrans0; rotate_left; assumption) | (apply btrans; rotate_left; assumption) | (simp; done) | omega | (simp; omega)))⟩)
    | skip
  all_goals
    go_loop [3] (fun i => ∃ k : Nat, k ≤ b.blocks.length ∧ i = .int .i64 k) (fun i => b.blocks.length - (intOf i).toNat)
    case atStart => exact ⟨0, Nat.zero_le _, rfl⟩
    case round =>
      obtain ⟨k, hk, rfl⟩ := hrel
      by_cases hlt : k < b.blocks.length
      · obtain ⟨bb, o, rfl, hbn, hcell⟩ := H4.out (by omega)
        obtain ⟨x, hx⟩ : ∃ x, b.blocks[k]? = some x := ⟨_, List.getElem?_eq_getElem hlt⟩
        obtain ⟨c1, c2, c3⟩ := hcell k x hx
        have hxd := HFd.out x (List.mem_of_getElem? hx)
        unfold maxLen at hxd
        have k1' : (k : Int) < (b.blocks.length : Int) := by omega
        clear hcell hx c1 c2
        go_wp2
        all_goals first
          | (go_ret; exact ⟨true, rfl, (by repeat' (first | (with_reducible refine bset ?_ ?_) | (with_reducible exact Below.refl _ _) | (with_reducible assumption) | (with_reducible refine bdrewN ?_ _) | (with_reducible refine bdrew ?_) | (with_reducible refine balloc0 ?_) | (with_reducible refine balloc ?_ ?_) | (with_reducible apply btrans0; rotate_left; with_reducible assumption) | (with_reducible apply btrans; rotate_left; with_reducible assumption) | exact Below.refl _ _ | assumption | (apply btrans0; rotate_left; assumption) | (apply btrans; rotate_left; assumption) | (simp; done) | omega | (simp; omega)))⟩)
          | (go_round
             case rel => exact ⟨k + 1, by omega, by go_num⟩
             case measure => simp [intOf]; omega)
      · obtain rfl : k = b.blocks.length := by omega
        go_wp2
        go_ret
        exact ⟨false, rfl, (by repeat' (first | (with_reducible refine bset ?_ ?_) | (with_reducible exact Below.refl _ _) | (with_reducible assumption) | (with_reducible refine bdrewN ?_ _) | (with_reducible refine bdrew ?_) | (with_reducible refine balloc0 ?_) | (with_reducible refine balloc ?_ ?_) | (with_reducible apply btrans0; rotate_left; with_reducible assumption) | (with_reducible apply btrans; rotate_left; with_reducible assumption) | exact Below.refl _ _ | assumption | (apply btrans0; rotate_left; assumption) | (apply btrans; rotate_left; assumption) | (simp; done) | omega | (simp; omega)))⟩

set_option maxRecDepth 100000 in
set_option maxHeartbeats 1000000 in
theorem lawGreat_any (b : Bun) (u : Value) (w : World) (h : RBlks w w.heap.size u b.blocks) (hf : Fits b) :
    Calls Try.prog 10 #[.agg (bunC b u).toArray] w (AnyBool w) := by
  have HR := Lib.hid h
  have HF := Lib.hid hf
  clear h hf
  go_enter Try.func10, Try.ntmps10
  simp only [bunC]
  go_wp2_with fail
  refine (great_any b _ _ (HR.out.below (C := w.heap.size) ((Below.refl _ _).alloc (Nat.le_refl _) _) (Nat.le_refl _) (by simp)) HF.out).mono ?_
  rintro e w1 ⟨g, rfl, hb1⟩
  go_wp2
  go_ret
  exact ⟨g, rfl, (by repeat' (first | (with_reducible refine bset ?_ ?_) | (with_reducible exact Below.refl _ _) | (with_reducible assumption) | (with_reducible refine bdrewN ?_ _) | (with_reducible refine bdrew ?_) | (with_reducible refine balloc0 ?_) | (with_reducible refine balloc ?_ ?_) | (with_reducible apply btrans0; rotate_left; with_reducible assumption) | (with_reducible apply btrans; rotate_left; with_reducible assumption) | exact Below.refl _ _ | assumption | (apply btrans0; rotate_left; assumption) | (apply btrans; rotate_left; assumption) | (simp; done) | omega | (simp; omega)))⟩

set_option maxRecDepth 100000 in
set_option maxHeartbeats 1000000 in
theorem sameAll_any (l : List Bun) (u v : Value) (w : World) (h : RBuns w w.heap.size u l) (k : RBuns w w.heap.size v l) :
    Calls Try.prog 16 #[u, v] w (Says w) := by
  obtain ⟨a, c, rfl, h1, h2, h3, h4⟩ := h
  obtain ⟨a', c', rfl, k1, k2, k3, k4⟩ := k
  unfold maxLen at h2
  have hlen : l.length ≤ 9223372036854775807 := by omega
  have H4 := Lib.hid h4
  have K4 := Lib.hid k4
  clear h3 h4 k3 k4
  go_enter Try.func16, Try.ntmps16
  go_wp2
  go_loopw [5] (fun i wr => ∃ k : Nat, k ≤ l.length ∧ i = .int .i64 k ∧ Below w.heap.size w wr) (fun i _ => l.length - (intOf i).toNat)
  case atStart => exact ⟨0, Nat.zero_le _, rfl, Below.refl _ _⟩
  case round =>
    obtain ⟨k, hk, rfl, hB⟩ := hrel
    by_cases hlt : k < l.length
    · obtain ⟨b, o, rfl, hbn, hcell⟩ := H4.out (by omega)
      obtain ⟨b', o', rfl, hbn', hcell'⟩ := K4.out (by omega)
      obtain ⟨x, hx⟩ : ∃ x, l[k]? = some x := ⟨_, List.getElem?_eq_getElem hlt⟩
      obtain ⟨u1, c1, r1⟩ := (hcell k x hx).keep (M := wr.heap.size) hbn (fun b o hb => hB.cell (p := ⟨b, o, none⟩) hb) hB.size
      obtain ⟨u2, d1, r2⟩ := (hcell' k x hx).keep (M := wr.heap.size) hbn' (fun b o hb => hB.cell (p := ⟨b, o, none⟩) hb) hB.size
      have k0 : (0 : Int) ≤ (k : Int) := by omega
      have k1' : (k : Int) < (l.length : Int) := by omega
      have R1 := Lib.hid r1
      have R2 := Lib.hid r2
      have q0 := c1 0 _ rfl
      have q1 := c1 1 _ rfl
      have q2 := c1 2 _ rfl
      have q3 := c1 3 _ rfl
      have q4 := c1 4 _ rfl
      have q5 := c1 5 _ rfl
      have q6 := c1 6 _ rfl
      have q7 := c1 7 _ rfl
      have q8 := c1 8 _ rfl
      have q9 := c1 9 _ rfl
      have q10 := c1 10 _ rfl
      have q11 := c1 11 _ rfl
      have p0 := d1 0 _ rfl
      have p1 := d1 1 _ rfl
      have p2 := d1 2 _ rfl
      have p3 := d1 3 _ rfl
      have p4 := d1 4 _ rfl
      have p5 := d1 5 _ rfl
      have p6 := d1 6 _ rfl
      have p7 := d1 7 _ rfl
      have p8 := d1 8 _ rfl
      have p9 := d1 9 _ rfl
      have p10 := d1 10 _ rfl
      have p11 := d1 11 _ rfl
      simp only [Nat.add_zero] at q0 p0
      clear hcell hcell' hx c1 d1 r1 r2
      go_wp2
      refine wp_region_plan (fun V => V.cell? ⟨b, o + k * 12, none⟩ = some (.int .i64 x.src) ∧ V.cell? ⟨b, o + k * 12 + 1, none⟩ = some (.int .i64 x.crt) ∧ V.cell? ⟨b, o + k * 12 + 2, none⟩ = some (.int .i64 x.seq) ∧ V.cell? ⟨b, o + k * 12 + 3, none⟩ = some (.int .i64 x.off) ∧ V.cell? ⟨b, o + k * 12 + 4, none⟩ = some (.int .i64 x.tot) ∧ V.cell? ⟨b, o + k * 12 + 5, none⟩ = some (.int .i64 x.dk) ∧ V.cell? ⟨b, o + k * 12 + 6, none⟩ = some (.int .i64 x.dn) ∧ V.cell? ⟨b, o + k * 12 + 7, none⟩ = some (.int .i64 x.life) ∧ V.cell? ⟨b, o + k * 12 + 8, none⟩ = some (.int .i64 x.prio) ∧ V.cell? ⟨b, o + k * 12 + 9, none⟩ = some (.int .i64 x.flags) ∧ V.cell? ⟨b, o + k * 12 + 10, none⟩ = some (u1) ∧ V.cell? ⟨b, o + k * 12 + 11, none⟩ = some (.string (B x.payload)) ∧ V.cell? ⟨b', o' + k * 12, none⟩ = some (.int .i64 x.src) ∧ V.cell? ⟨b', o' + k * 12 + 1, none⟩ = some (.int .i64 x.crt) ∧ V.cell? ⟨b', o' + k * 12 + 2, none⟩ = some (.int .i64 x.seq) ∧ V.cell? ⟨b', o' + k * 12 + 3, none⟩ = some (.int .i64 x.off) ∧ V.cell? ⟨b', o' + k * 12 + 4, none⟩ = some (.int .i64 x.tot) ∧ V.cell? ⟨b', o' + k * 12 + 5, none⟩ = some (.int .i64 x.dk) ∧ V.cell? ⟨b', o' + k * 12 + 6, none⟩ = some (.int .i64 x.dn) ∧ V.cell? ⟨b', o' + k * 12 + 7, none⟩ = some (.int .i64 x.life) ∧ V.cell? ⟨b', o' + k * 12 + 8, none⟩ = some (.int .i64 x.prio) ∧ V.cell? ⟨b', o' + k * 12 + 9, none⟩ = some (.int .i64 x.flags) ∧ V.cell? ⟨b', o' + k * 12 + 10, none⟩ = some (u2) ∧ V.cell? ⟨b', o' + k * 12 + 11, none⟩ = some (.string (B x.payload))) [0, 0, 0, 1, 0, 0, 0, 1, 3, 0] [0, 1, 2, 3, 4, 5, 6, 7, 8, 9] (by kernel_rfl) (by kernel_rfl) ?_ ?_
      case refine_1 => exact ⟨q0, q1, q2, q3, q4, q5, q6, q7, q8, q9, q10, q11, p0, p1, p2, p3, p4, p5, p6, p7, p8, p9, p10, p11⟩
      (iterate 8 (refine plan_held rfl (by decide) (by rfl) (fun w1 hS => by (try (have hS := hS rfl; obtain hS := hS; repeat (obtain ⟨_, hS⟩ := hS))); go_simp; rfl) ?_; simp only [Act.put, List.setIfInBounds_toArray, List.set_cons_zero, List.set_cons_succ]))
      (refine plan_late rfl rfl (by rfl) (fun K hK => ?_); go_simp)
      refine (same_any x u1 u2 wr.drew (show RBlks wr wr.heap.size u1 x.blocks from R1.out) (show RBlks wr wr.heap.size u2 x.blocks from R2.out)).mono ?_
      rintro e w1 ⟨rfl, hb1⟩
      (refine hK _ _ ?_; clear hK K; (try simp only [Act.put, List.setIfInBounds_toArray, List.set_cons_zero, List.set_cons_succ]))
      (iterate 1 (refine plan_held rfl (by decide) (by rfl) (fun w1 hS => by (try (have hS := hS rfl; obtain hS := hS; repeat (obtain ⟨_, hS⟩ := hS))); go_simp; rfl) ?_; simp only [Act.put, List.setIfInBounds_toArray, List.set_cons_zero, List.set_cons_succ]))
      refine plan_done ?_
      go_wp2
      go_roundw
      case rel => exact ⟨k + 1, by omega, by go_num, (by repeat' (first | (with_reducible refine bset ?_ ?_) | (with_reducible exact Below.refl _ _) | (with_reducible assumption) | (with_reducible refine bdrewN ?_ _) | (with_reducible refine bdrew ?_) | (with_reducible refine balloc0 ?_) | (with_reducible refine balloc ?_ ?_) | (with_reducible apply btrans0; rotate_left; with_reducible assumption) | (with_reducible apply btrans; rotate_left; with_reducible assumption) | exact Below.refl _ _ | assumption | (apply btrans0; rotate_left; assumption) | (apply btrans; rotate_left; assumption) | (simp; done) | omega | (simp; omega)))⟩
      case measure => simp [intOf]; omega
    · obtain rfl : k = l.length := by omega
      go_wp2
      go_ret
      exact ⟨rfl, hB⟩
end Go.Proofs.Ytibfchdhppdccaa
