/- Joined by port.py: XQm -/
import Derived.Test.YtmknchdciblfjaaGreatKaz
import Derived.Test.YtmknchdciblfjaaGreatKc
import Derived.BigQuiet
import Derived.Deep.Cut
import Derived.Test.YtmknchdciblfjaaGreatJa
import Derived.Test.YtmknchdciblfjaaGreatJb
import Derived.Test.YtmknchdciblfjaaGreatJc
import Derived.Test.YtmknchdciblfjaaGreatJh
import Derived.Test.YtmknchdciblfjaaGreatJn
import Derived.Test.YtmknchdciblfjaaGreatJo
import Derived.Test.YtmknchdciblfjaaGreatJp
import Derived.Test.YtmknchdciblfjaaGreatJw
set_option linter.unusedVariables false
set_option linter.unusedSimpArgs false
/-! XQm -/
namespace Go.Proofs.YtmknchdciblfjaaGreat
open Go Go.RowKit
attribute [local go_sem] B_getElem B_size B_app B_extract B_get B_toList
theorem OwnG.len {w : World} {B : Nat} {v : Value} {gs : List (List Int)} (h : OwnG w B v gs) : ∃ a c, v = .slice a gs.length c := by
  obtain ⟨vals, h1, _⟩ := h
  exact own_shape h1
theorem OwnG.step {w w' : World} {B : Nat} {v : Value} {gs : List (List Int)} (h : OwnG w B v gs) (k : Below w.heap.size w w') : OwnG w' B v gs := by
  obtain ⟨vals, h1⟩ := h
  exact ⟨vals, OwnV.below h1 k⟩
attribute [local go_sem] bunC
set_option maxRecDepth 100000 in
set_option maxHeartbeats 4000000 in
theorem sameAll_any (l : List Bun) (u v : Value) (w : World) (h : RBuns w w.heap.size u l) (k : RBuns w w.heap.size v l) :
    Calls Tryz.prog 10 #[u, v] w (Says w) := by
  obtain ⟨a, c, rfl, h1, h2, h3, h4⟩ := h
  obtain ⟨a', c', rfl, k1, k2, k3, k4⟩ := k
  unfold maxLen at h2
  have hlen : l.length ≤ 9223372036854775807 := by omega
  have H4 := Lib.hid h4
  have K4 := Lib.hid k4
  clear h3 h4 k3 k4
  go_enter Tryz.func10, Tryz.ntmps10
  go_wp2
  go_loopw [5] (fun i wr => ∃ k : Nat, k ≤ l.length ∧ i = .int .i64 k ∧ Below w.heap.size w wr) (fun i _ => l.length - (intOf i).toNat)
  case atStart => exact ⟨0, Nat.zero_le _, rfl, Below.refl _ _⟩
  case round =>
    obtain ⟨k, hk, rfl, hB⟩ := hrel
    by_cases hlt : k < l.length
    · obtain ⟨b, o, rfl, hbn, hcell⟩ := H4.out (by omega)
      obtain ⟨b', o', rfl, hbn', hcell'⟩ := K4.out (by omega)
      obtain ⟨x, hx⟩ : ∃ x, l[k]? = some x := ⟨_, List.getElem?_eq_getElem hlt⟩
      obtain ⟨u1, c1, r1⟩ := (hcell k x hx).keep (M := wr.heap.size) hbn (fun b o hb => hB.cell (p := ⟨b, o, none⟩) hb) hB.size
      obtain ⟨u2, d1, r2⟩ := (hcell' k x hx).keep (M := wr.heap.size) hbn' (fun b o hb => hB.cell (p := ⟨b, o, none⟩) hb) hB.size
      have k0 : (0 : Int) ≤ (k : Int) := by omega
      have k1' : (k : Int) < (l.length : Int) := by omega
      have R1 := Lib.hid r1
      have R2 := Lib.hid r2
      have q0 := c1 0 _ rfl
      have q1 := c1 1 _ rfl
      have q2 := c1 2 _ rfl
      have q3 := c1 3 _ rfl
      have q4 := c1 4 _ rfl
      have q5 := c1 5 _ rfl
      have q6 := c1 6 _ rfl
      have q7 := c1 7 _ rfl
      have q8 := c1 8 _ rfl
      have q9 := c1 9 _ rfl
      have q10 := c1 10 _ rfl
      have q11 := c1 11 _ rfl
      have p0 := d1 0 _ rfl
      have p1 := d1 1 _ rfl
      have p2 := d1 2 _ rfl
      have p3 := d1 3 _ rfl
      have p4 := d1 4 _ rfl
      have p5 := d1 5 _ rfl
      have p6 := d1 6 _ rfl
      have p7 := d1 7 _ rfl
      have p8 := d1 8 _ rfl
      have p9 := d1 9 _ rfl
      have p10 := d1 10 _ rfl
      have p11 := d1 11 _ rfl
      simp only [Nat.add_zero] at q0 p0
      have zp := hB.size
      have zp1 : b < wr.heap.size := by omega
      have zp2 : b' < wr.heap.size := by omega
      clear hcell hcell' hx c1 d1 r1 r2
      go_upto_region 6 with fail
      refine wp_region_plan (fun V => Below (wr).heap.size (wr) V) [0, 0, 0, 1, 0, 0, 0, 1, 3, 0] [0, 1, 2, 3, 4, 5, 6, 7, 8, 9] (by kernel_rfl) (by kernel_rfl) ?_ ?_
      case refine_1 => exact belowA
      (iterate 8 (first | (refine plan_held rfl (by decide) (by rfl) (fun w1 hS => by (try (obtain ⟨_, _⟩ := bcell (hS rfl))); go_simp; rfl) ?_; simp only [Act.put, List.setIfInBounds_toArray, List.set_cons_zero, List.set_cons_succ]) | (refine plan_skip rfl (by decide) (by rfl) ?_; simp only [Act.put, List.setIfInBounds_toArray, List.set_cons_zero, List.set_cons_succ])))
      (refine plan_late rfl rfl (by rfl) (fun K hK => ?_); go_simp)
      refine (bsame_any x u1 u2 _ (R1.out.below' belowA) (R2.out.below' belowA)).mono ?_
      rintro e wc25 ⟨rfl, hbc25⟩
      (refine hK _ _ ?_; clear hK K; (try simp only [Act.put, List.setIfInBounds_toArray, List.set_cons_zero, List.set_cons_succ]))
      (iterate 1 (first | (refine plan_held rfl (by decide) (by rfl) (fun w1 hS => by (try (obtain ⟨_, _⟩ := bcell (hS rfl))); go_simp; rfl) ?_; simp only [Act.put, List.setIfInBounds_toArray, List.set_cons_zero, List.set_cons_succ]) | (refine plan_skip rfl (by decide) (by rfl) ?_; simp only [Act.put, List.setIfInBounds_toArray, List.set_cons_zero, List.set_cons_succ])))
      refine plan_done ?_
      go_wp2
      go_roundw
      case rel => exact ⟨k + 1, by omega, by go_num, belowA⟩
      case measure => simp [intOf]; omega
    · obtain rfl : k = l.length := by omega
      go_wp2
      go_ret
      exact ⟨rfl, hB⟩
def GreatP (l : List Bun) (w : World) (e : Ending) (w' : World) : Prop := ∃ g, e = .returned (.bool g) ∧ Below w.heap.size w w' ∧ (g = false → l.length ≤ 68)
set_option maxRecDepth 100000 in
set_option maxHeartbeats 4000000 in
theorem greatAll_any (l : List Bun) (u : Value) (w : World) (h : RBuns w w.heap.size u l) (hf : ∀ x ∈ l, Fits x) :
    Calls Tryz.prog 4 #[u] w (GreatP l w) := by
  have HF := Lib.hid hf
  obtain ⟨a, c, rfl, h1, h2, h3, h4⟩ := h
  unfold maxLen at h2
  have hlen : l.length ≤ 9223372036854775807 := by omega
  have H4 := Lib.hid h4
  clear h3 h4 hf
  by_cases g1 : (8 < l.length ∧ l.length ≤ 64) ∨ 68 < l.length
  · have d3 : decide ((8 : Int) < (l.length : Int)) = true := by rw [decide_eq_true_eq]; omega
    rcases g1 with ⟨g1, g2⟩ | g1
    · have d2 : decide ((l.length : Int) ≤ 64) = true := by rw [decide_eq_true_eq]; omega
      go_enter Tryz.func4, Tryz.ntmps4
      go_wp2
      go_ret
      unfold GreatP
      exact ⟨_, rfl, belowA, fun e => by cases e⟩
    · have d2 : decide ((l.length : Int) ≤ 64) = false := by rw [decide_eq_false_iff_not]; omega
      have d1 : decide ((68 : Int) < (l.length : Int)) = true := by rw [decide_eq_true_eq]; omega
      go_enter Tryz.func4, Tryz.ntmps4
      go_wp2
      go_ret
      unfold GreatP
      exact ⟨_, rfl, belowA, fun e => by cases e⟩
  · have hl68 : l.length ≤ 68 := by omega
    have d1 : decide ((68 : Int) < (l.length : Int)) = false := by rw [decide_eq_false_iff_not]; omega
    obtain ⟨b8, h8⟩ : ∃ q, decide ((8 : Int) < (l.length : Int)) = q := ⟨_, rfl⟩
    obtain ⟨b64, h64⟩ : ∃ q, decide ((l.length : Int) ≤ 64) = q := ⟨_, rfl⟩
    have h864 : (b8 && b64) = false := by
      rw [← h8, ← h64, Bool.and_eq_false_iff, decide_eq_false_iff_not, decide_eq_false_iff_not]; omega
    clear g1
    cases b8
    case' true => obtain rfl : b64 = false := by simpa using h864
    all_goals
      clear h864
      go_enter Tryz.func4, Tryz.ntmps4
      go_wp2
      go_loopw [3] (fun i wr => ∃ k : Nat, k ≤ l.length ∧ i = .int .i64 k ∧ Below w.heap.size w wr) (fun i _ => l.length - (intOf i).toNat)
      case atStart => exact ⟨0, Nat.zero_le _, rfl, Below.refl _ _⟩
      case round =>
        obtain ⟨k, hk, rfl, hB⟩ := hrel
        by_cases hlt : k < l.length
        · skip
          obtain ⟨bb, o, rfl, hbn, hcell⟩ := H4.out (by omega)
          obtain ⟨x, hx⟩ : ∃ x, l[k]? = some x := ⟨_, List.getElem?_eq_getElem hlt⟩
          obtain ⟨ux, hc, hub⟩ := hcell k x hx
          have q0 : wr.cell? ⟨bb, o + k * 12, none⟩ = some (.int .i64 x.src) := (hB.cell (p := ⟨bb, o + k * 12 + 0, none⟩) hbn).trans (hc 0 _ rfl)
          have q1 : wr.cell? ⟨bb, o + k * 12 + 1, none⟩ = some (.int .i64 x.crt) := (hB.cell (p := ⟨bb, o + k * 12 + 1, none⟩) hbn).trans (hc 1 _ rfl)
          have q2 : wr.cell? ⟨bb, o + k * 12 + 2, none⟩ = some (.int .i64 x.seq) := (hB.cell (p := ⟨bb, o + k * 12 + 2, none⟩) hbn).trans (hc 2 _ rfl)
          have q3 : wr.cell? ⟨bb, o + k * 12 + 3, none⟩ = some (.int .i64 x.off) := (hB.cell (p := ⟨bb, o + k * 12 + 3, none⟩) hbn).trans (hc 3 _ rfl)
          have q4 : wr.cell? ⟨bb, o + k * 12 + 4, none⟩ = some (.int .i64 x.tot) := (hB.cell (p := ⟨bb, o + k * 12 + 4, none⟩) hbn).trans (hc 4 _ rfl)
          have q5 : wr.cell? ⟨bb, o + k * 12 + 5, none⟩ = some (.int .i64 x.dk) := (hB.cell (p := ⟨bb, o + k * 12 + 5, none⟩) hbn).trans (hc 5 _ rfl)
          have q6 : wr.cell? ⟨bb, o + k * 12 + 6, none⟩ = some (.int .i64 x.dn) := (hB.cell (p := ⟨bb, o + k * 12 + 6, none⟩) hbn).trans (hc 6 _ rfl)
          have q7 : wr.cell? ⟨bb, o + k * 12 + 7, none⟩ = some (.int .i64 x.life) := (hB.cell (p := ⟨bb, o + k * 12 + 7, none⟩) hbn).trans (hc 7 _ rfl)
          have q8 : wr.cell? ⟨bb, o + k * 12 + 8, none⟩ = some (.int .i64 x.prio) := (hB.cell (p := ⟨bb, o + k * 12 + 8, none⟩) hbn).trans (hc 8 _ rfl)
          have q9 : wr.cell? ⟨bb, o + k * 12 + 9, none⟩ = some (.int .i64 x.flags) := (hB.cell (p := ⟨bb, o + k * 12 + 9, none⟩) hbn).trans (hc 9 _ rfl)
          have q10 : wr.cell? ⟨bb, o + k * 12 + 10, none⟩ = some (ux) := (hB.cell (p := ⟨bb, o + k * 12 + 10, none⟩) hbn).trans (hc 10 _ rfl)
          have q11 : wr.cell? ⟨bb, o + k * 12 + 11, none⟩ = some (.string (B x.payload)) := (hB.cell (p := ⟨bb, o + k * 12 + 11, none⟩) hbn).trans (hc 11 _ rfl)
          have HUB := Lib.hid (hub.below hB (Nat.le_refl _) hB.size)
          obtain ⟨xa, xc, rfl, _⟩ := id hub
          have k0 : (0 : Int) ≤ (k : Int) := by omega
          have k1 : (k : Int) < (l.length : Int) := by omega
          have HX := Lib.hid hx
          have hsz := hB.size
          clear hc hub hx hcell
          have HFX := Lib.hid (HF.out x (List.mem_of_getElem? HX.out))
          go_wp2_with fail
          refine (bgreat_any x _ _ HUB.out HFX.out).mono ?_
          rintro e w2 ⟨g, rfl, hb2⟩
          have hB2 : Below w.heap.size w w2 := btrans0 hB hb2
          cases g with
          | true =>
            go_wp2
            go_ret
            unfold GreatP
            exact ⟨_, rfl, hB2, fun e => by cases e⟩
          | false =>
            go_wp2
            go_roundw
            case rel => exact ⟨k + 1, by omega, by go_num, hB2⟩
            case measure => simp [intOf]; omega
        · obtain rfl : k = l.length := by omega
          go_wp2
          go_ret
          unfold GreatP
          exact ⟨_, rfl, hB, fun _ => hl68⟩
end Go.Proofs.YtmknchdciblfjaaGreat
