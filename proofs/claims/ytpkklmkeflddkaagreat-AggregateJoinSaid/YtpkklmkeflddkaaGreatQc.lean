/- Chapter 19: times, alive, payload. -/
import Derived.Test.YtpkklmkeflddkaaGreatQb
set_option linter.unusedVariables false
set_option linter.unusedSimpArgs false
namespace Go.Proofs.YtpkklmkeflddkaaGreat
open Go Go.RowKit
attribute [local go_sem] B_getElem B_size B_app B_extract B_get B_toList

attribute [local go_sem] bunC
def crtS (l : List Bun) : Int := l.foldl (fun m b => if b.crt > m then b.crt else m) 0
def endS (l : List Bun) : Int := l.foldl (fun m b => if expS b < m then expS b else m) 1099511627776
theorem crtS_step {l : List Bun} {k : Nat} {x : Bun} (h : l[k]? = some x) : crtS (l.take (k + 1)) = if x.crt > crtS (l.take k) then x.crt else crtS (l.take k) := by
  unfold crtS; rw [List.take_add_one, h]; simp
theorem endS_step {l : List Bun} {k : Nat} {x : Bun} (h : l[k]? = some x) : endS (l.take (k + 1)) = if expS x < endS (l.take k) then expS x else endS (l.take k) := by
  unfold endS; rw [List.take_add_one, h]; simp
set_option maxRecDepth 100000 in
set_option maxHeartbeats 4000000 in
theorem times_any (l : List Bun) (v : Value) (w : World) (h : RBuns w w.heap.size v l) (hf : ∀ x ∈ l, Fits x) :
    Calls Tryz.prog 18 #[v] w fun e w' => e = .returned (.tuple #[.int .i64 (crtS l), .int .i64 (endS l)]) ∧ Below w.heap.size w w' := by
  have HF := Lib.hid hf
  obtain ⟨a, c, rfl, h1, h2, h3, h4⟩ := h
  unfold maxLen at h2
  have hlen : l.length ≤ 9223372036854775807 := by omega
  have H4 := Lib.hid h4
  clear h3 h4 hf
  go_enter Tryz.func18, Tryz.ntmps18
  go_wp2
  go_loopw [10, 4, 5] (fun i cr en wr => ∃ (k : Nat) (C E : Int), k ≤ l.length ∧ i = .int .i64 k ∧ cr = .int .i64 C ∧ en = .int .i64 E ∧ Hid (C = crtS (l.take k)) ∧ Hid (E = endS (l.take k)) ∧ Below w.heap.size w wr) (fun i _ _ _ => l.length - (intOf i).toNat)
  case atStart => exact ⟨0, 0, 1099511627776, Nat.zero_le _, rfl, rfl, rfl, Lib.hid (by simp [crtS]), Lib.hid (by simp [endS]), Below.refl _ _⟩
  case round =>
    obtain ⟨k, C, E, hk, rfl, rfl, rfl, HC, HE, hB⟩ := hrel
    by_cases hlt : k < l.length
    · skip
      obtain ⟨bb, o, rfl, hbn, hcell⟩ := H4.out (by omega)
      obtain ⟨x, hx⟩ : ∃ x, l[k]? = some x := ⟨_, List.getElem?_eq_getElem hlt⟩
      obtain ⟨ux, hc, hub⟩ := hcell k x hx
      have q0 : wr.cell? ⟨bb, o + k * 12, none⟩ = some (.int .i64 x.src) := (hB.cell (p := ⟨bb, o + k * 12 + 0, none⟩) hbn).trans (hc 0 _ rfl)
      have q1 : wr.cell? ⟨bb, o + k * 12 + 1, none⟩ = some (.int .i64 x.crt) := (hB.cell (p := ⟨bb, o + k * 12 + 1, none⟩) hbn).trans (hc 1 _ rfl)
      have q2 : wr.cell? ⟨bb, o + k * 12 + 2, none⟩ = some (.int .i64 x.seq) := (hB.cell (p := ⟨bb, o + k * 12 + 2, none⟩) hbn).trans (hc 2 _ rfl)
      have q3 : wr.cell? ⟨bb, o + k * 12 + 3, none⟩ = some (.int .i64 x.off) := (hB.cell (p := ⟨bb, o + k * 12 + 3, none⟩) hbn).trans (hc 3 _ rfl)
      have q4 : wr.cell? ⟨bb, o + k * 12 + 4, none⟩ = some (.int .i64 x.tot) := (hB.cell (p := ⟨bb, o + k * 12 + 4, none⟩) hbn).trans (hc 4 _ rfl)
      have q5 : wr.cell? ⟨bb, o + k * 12 + 5, none⟩ = some (.int .i64 x.dk) := (hB.cell (p := ⟨bb, o + k * 12 + 5, none⟩) hbn).trans (hc 5 _ rfl)
      have q6 : wr.cell? ⟨bb, o + k * 12 + 6, none⟩ = some (.int .i64 x.dn) := (hB.cell (p := ⟨bb, o + k * 12 + 6, none⟩) hbn).trans (hc 6 _ rfl)
      have q7 : wr.cell? ⟨bb, o + k * 12 + 7, none⟩ = some (.int .i64 x.life) := (hB.cell (p := ⟨bb, o + k * 12 + 7, none⟩) hbn).trans (hc 7 _ rfl)
      have q8 : wr.cell? ⟨bb, o + k * 12 + 8, none⟩ = some (.int .i64 x.prio) := (hB.cell (p := ⟨bb, o + k * 12 + 8, none⟩) hbn).trans (hc 8 _ rfl)
      have q9 : wr.cell? ⟨bb, o + k * 12 + 9, none⟩ = some (.int .i64 x.flags) := (hB.cell (p := ⟨bb, o + k * 12 + 9, none⟩) hbn).trans (hc 9 _ rfl)
      have q10 : wr.cell? ⟨bb, o + k * 12 + 10, none⟩ = some (ux) := (hB.cell (p := ⟨bb, o + k * 12 + 10, none⟩) hbn).trans (hc 10 _ rfl)
      have q11 : wr.cell? ⟨bb, o + k * 12 + 11, none⟩ = some (.string (B x.payload)) := (hB.cell (p := ⟨bb, o + k * 12 + 11, none⟩) hbn).trans (hc 11 _ rfl)
      have HUB := Lib.hid (hub.below hB (Nat.le_refl _) hB.size)
      obtain ⟨xa, xc, rfl, _⟩ := id hub
      have k0 : (0 : Int) ≤ (k : Int) := by omega
      have k1 : (k : Int) < (l.length : Int) := by omega
      have HX := Lib.hid hx
      have hsz := hB.size
      clear hc hub hx hcell
      have HFX := Lib.hid (HF.out x (List.mem_of_getElem? HX.out))
      have HC2 := Lib.hid (crtS_step HX.out)
      have HE2 := Lib.hid (endS_step HX.out)
      obtain ⟨X, hX⟩ : ∃ q, expS x = q := ⟨_, rfl⟩
      have HEX := Lib.hid hX
      clear hX
      go_wp2
      have AC : (wr.alloc (.cells (bunC x (.slice xa x.blocks.length xc)).toArray 31)).heap[wr.heap.size]? = some (.cells (bunC x (.slice xa x.blocks.length xc)).toArray 31 (0, 0)) := heap_new
      have B9 : Below w.heap.size w (wr.alloc (.cells (bunC x (.slice xa x.blocks.length xc)).toArray 31)) := balloc0 hB
      have R9 := HUB.out.below' (balloc0 (o := .cells (bunC x (.slice xa x.blocks.length xc)).toArray 31) (Below.refl _ _))
      have z9 : wr.heap.size < (wr.alloc (.cells (bunC x (.slice xa x.blocks.length xc)).toArray 31)).heap.size := by simp
      simp only [bunC] at AC B9 R9 z9
      generalize wr.alloc (.cells _ _) = W9 at *
      have HX9 := Lib.hid R9
      have cc := fun o => cellB AC o
      have HAC := Lib.hid AC
      clear R9 AC
      refine wp_region_plan (fun V => Below (W9).heap.size (W9) V) [0, 0, 0, 1, 0, 0, 1, 2, 0, 0, 0] [0, 1, 2, 3, 4, 5, 6, 7, 8, 9, 10] (by kernel_rfl) (by kernel_rfl) ?_ ?_
      case refine_1 => exact (by repeat' (first | with_reducible (first | refine bset ?_ ?_ | exact Below.refl _ _ | assumption | refine bdrewN ?_ _ | refine bdrew ?_ | refine balloc0 ?_ | refine balloc ?_ ?_ | (apply btrans0; rotate_left; assumption) | (apply btrans; rotate_left; assumption)) | exact Below.refl _ _ | assumption | (apply btrans0; rotate_left; assumption) | (apply btrans; rotate_left; assumption) | (simp; done) | omega | (simp; omega)))
      (iterate 7 (first | (refine plan_held rfl (by decide) (by rfl) (fun w1 hS => by (try (obtain ⟨_, _⟩ := bcell (hS rfl))); go_simp; rfl) ?_; simp only [Act.put, List.setIfInBounds_toArray, List.set_cons_zero, List.set_cons_succ]) | (refine plan_skip rfl (by decide) (by rfl) ?_; simp only [Act.put, List.setIfInBounds_toArray, List.set_cons_zero, List.set_cons_succ])))
      (refine plan_keep rfl rfl (by rfl) (fun K hK => ?_); go_simp)
      refine (expires_any x _ _ (HX9.out.below' (by repeat' (first | with_reducible (first | refine bset ?_ ?_ | exact Below.refl _ _ | assumption | refine bdrewN ?_ _ | refine bdrew ?_ | refine balloc0 ?_ | refine balloc ?_ ?_ | (apply btrans0; rotate_left; assumption) | (apply btrans; rotate_left; assumption)) | exact Below.refl _ _ | assumption | (apply btrans0; rotate_left; assumption) | (apply btrans; rotate_left; assumption) | (simp; done) | omega | (simp; omega)))) HFX.out).mono ?_
      rw [HEX.out]
      rintro e wc21 ⟨rfl, hbc21⟩
      (refine hK _ _ (by exact (by repeat' (first | with_reducible (first | refine bset ?_ ?_ | exact Below.refl _ _ | assumption | refine bdrewN ?_ _ | refine bdrew ?_ | refine balloc0 ?_ | refine balloc ?_ ?_ | (apply btrans0; rotate_left; assumption) | (apply btrans; rotate_left; assumption)) | exact Below.refl _ _ | assumption | (apply btrans0; rotate_left; assumption) | (apply btrans; rotate_left; assumption) | (simp; done) | omega | (simp; omega)))) ?_; clear hK K; (try simp only [Act.put, List.setIfInBounds_toArray, List.set_cons_zero, List.set_cons_succ]))
      (iterate 3 (first | (refine plan_held rfl (by decide) (by rfl) (fun w1 hS => by (try (obtain ⟨_, _⟩ := bcell (hS rfl))); go_simp; rfl) ?_; simp only [Act.put, List.setIfInBounds_toArray, List.set_cons_zero, List.set_cons_succ]) | (refine plan_skip rfl (by decide) (by rfl) ?_; simp only [Act.put, List.setIfInBounds_toArray, List.set_cons_zero, List.set_cons_succ])))
      refine plan_done ?_
      go_wp2
      go_roundw
      case rel =>
        refine ⟨k + 1, _, _, by omega, by go_num, rfl, rfl, Lib.hid ?_, Lib.hid ?_, (by repeat' (first | with_reducible (first | refine bset ?_ ?_ | exact Below.refl _ _ | assumption | refine bdrewN ?_ _ | refine bdrew ?_ | refine balloc0 ?_ | refine balloc ?_ ?_ | (apply btrans0; rotate_left; assumption) | (apply btrans; rotate_left; assumption)) | exact Below.refl _ _ | assumption | (apply btrans0; rotate_left; assumption) | (apply btrans; rotate_left; assumption) | (simp; done) | omega | (simp; omega)))⟩
        · rw [HC2.out, ← HC.out]
        · rw [HE2.out, ← HE.out, HEX.out]
      case measure => simp [intOf]; omega
    · obtain rfl : k = l.length := by omega
      have HCc : Hid (C = crtS l) := Lib.hid (by rw [HC.out, List.take_length])
      have HEe : Hid (E = endS l) := Lib.hid (by rw [HE.out, List.take_length])
      go_wp2
      go_ret2
      rw [← HCc.out, ← HEe.out]
      exact ⟨rfl, hB⟩
set_option maxRecDepth 100000 in
set_option maxHeartbeats 4000000 in
theorem alive_any (l : List Bun) (v : Value) (w : World) (h : RBuns w w.heap.size v l) (hf : ∀ x ∈ l, Fits x) :
    Calls Tryz.prog 16 #[v] w fun e w' => e = .returned (.bool (decide (crtS l < endS l))) ∧ Below w.heap.size w w' := by
  have HR := Lib.hid h
  have HF := Lib.hid hf
  obtain ⟨C, hC⟩ : ∃ q, crtS l = q := ⟨_, rfl⟩
  obtain ⟨E, hE⟩ : ∃ q, endS l = q := ⟨_, rfl⟩
  have HC := Lib.hid hC
  have HE := Lib.hid hE
  rw [hC, hE]
  clear h hf hC hE
  go_enter Tryz.func16, Tryz.ntmps16
  go_wp2_with fail
  refine (times_any l _ _ HR.out HF.out).mono ?_
  rw [HC.out, HE.out]
  rintro e w1 ⟨rfl, hb1⟩
  go_wp2
  go_ret
  exact ⟨rfl, hb1⟩
/-- the joined payload -/
def payS (l : List Bun) : List UInt8 := intE l.length ++ l.flatMap (fun b => textE (bunR b))
theorem pay_take (l : List Bun) (k : Nat) : ((l.take k).flatMap (fun b => textE (bunR b))).length ≤ 30011 * l.length := by
  have : ∀ m : List Bun, (m.flatMap (fun b => textE (bunR b))).length ≤ 30011 * m.length := fun m => by
    induction m with
    | nil => simp
    | cons x r ih =>
      rw [List.flatMap_cons, List.length_append, List.length_cons]
      have := (textE_len (bunR x)).2
      have := bunR_len x
      omega
  have h := this (l.take k)
  rw [List.length_take] at h
  have : min k l.length ≤ l.length := Nat.min_le_right _ _
  have := Nat.mul_le_mul_left 30011 this
  omega
set_option maxRecDepth 100000 in
set_option maxHeartbeats 4000000 in
theorem payload_any (l : List Bun) (v : Value) (w : World) (h : RBuns w w.heap.size v l) (hf : ∀ x ∈ l, Fits x) (hl : l.length ≤ 20000) :
    Calls Tryz.prog 17 #[v] w fun e w' => e = .returned (.string (B (payS l))) ∧ Below w.heap.size w w' := by
  have HF := Lib.hid hf
  obtain ⟨a, c, rfl, h1, h2, h3, h4⟩ := h
  unfold maxLen at h2
  have hlen : l.length ≤ 9223372036854775807 := by omega
  have H4 := Lib.hid h4
  clear h3 h4 hf
  have i1 := (intE_len (l.length : Int)).2
  obtain ⟨I, hI⟩ : ∃ q, intE (l.length : Int) = q := ⟨_, rfl⟩
  have HI := Lib.hid hI
  rw [hI] at i1
  clear hI
  go_enter Tryz.func17, Tryz.ntmps17
  go_wp2_with fail
  refine (int_any (l.length : Int) _ (by omega) (by omega)).mono ?_
  rw [HI.out]
  rintro e w0 ⟨rfl, hb0⟩
  go_wp2
  go_loopw [19, 3] (fun i s wr => ∃ (k : Nat) (S : List UInt8), k ≤ l.length ∧ i = .int .i64 k ∧ s = .string (B S) ∧ Hid (S = I ++ (l.take k).flatMap (fun b => textE (bunR b))) ∧ Below w.heap.size w wr) (fun i _ _ => l.length - (intOf i).toNat)
  case atStart => exact ⟨0, I, Nat.zero_le _, rfl, rfl, Lib.hid (by simp), hb0⟩
  case round =>
    obtain ⟨k, S, hk, rfl, rfl, HS, hB⟩ := hrel
    have hSl : S.length ≤ 11 + 30011 * l.length := by
      have := congrArg List.length HS.out
      rw [List.length_append] at this
      have := pay_take l k
      omega
    by_cases hlt : k < l.length
    · skip
      obtain ⟨bb, o, rfl, hbn, hcell⟩ := H4.out (by omega)
      obtain ⟨x, hx⟩ : ∃ x, l[k]? = some x := ⟨_, List.getElem?_eq_getElem hlt⟩
      obtain ⟨ux, hc, hub⟩ := hcell k x hx
      have q0 : wr.cell? ⟨bb, o + k * 12, none⟩ = some (.int .i64 x.src) := (hB.cell (p := ⟨bb, o + k * 12 + 0, none⟩) hbn).trans (hc 0 _ rfl)
      have q1 : wr.cell? ⟨bb, o + k * 12 + 1, none⟩ = some (.int .i64 x.crt) := (hB.cell (p := ⟨bb, o + k * 12 + 1, none⟩) hbn).trans (hc 1 _ rfl)
      have q2 : wr.cell? ⟨bb, o + k * 12 + 2, none⟩ = some (.int .i64 x.seq) := (hB.cell (p := ⟨bb, o + k * 12 + 2, none⟩) hbn).trans (hc 2 _ rfl)
      have q3 : wr.cell? ⟨bb, o + k * 12 + 3, none⟩ = some (.int .i64 x.off) := (hB.cell (p := ⟨bb, o + k * 12 + 3, none⟩) hbn).trans (hc 3 _ rfl)
      have q4 : wr.cell? ⟨bb, o + k * 12 + 4, none⟩ = some (.int .i64 x.tot) := (hB.cell (p := ⟨bb, o + k * 12 + 4, none⟩) hbn).trans (hc 4 _ rfl)
      have q5 : wr.cell? ⟨bb, o + k * 12 + 5, none⟩ = some (.int .i64 x.dk) := (hB.cell (p := ⟨bb, o + k * 12 + 5, none⟩) hbn).trans (hc 5 _ rfl)
      have q6 : wr.cell? ⟨bb, o + k * 12 + 6, none⟩ = some (.int .i64 x.dn) := (hB.cell (p := ⟨bb, o + k * 12 + 6, none⟩) hbn).trans (hc 6 _ rfl)
      have q7 : wr.cell? ⟨bb, o + k * 12 + 7, none⟩ = some (.int .i64 x.life) := (hB.cell (p := ⟨bb, o + k * 12 + 7, none⟩) hbn).trans (hc 7 _ rfl)
      have q8 : wr.cell? ⟨bb, o + k * 12 + 8, none⟩ = some (.int .i64 x.prio) := (hB.cell (p := ⟨bb, o + k * 12 + 8, none⟩) hbn).trans (hc 8 _ rfl)
      have q9 : wr.cell? ⟨bb, o + k * 12 + 9, none⟩ = some (.int .i64 x.flags) := (hB.cell (p := ⟨bb, o + k * 12 + 9, none⟩) hbn).trans (hc 9 _ rfl)
      have q10 : wr.cell? ⟨bb, o + k * 12 + 10, none⟩ = some (ux) := (hB.cell (p := ⟨bb, o + k * 12 + 10, none⟩) hbn).trans (hc 10 _ rfl)
      have q11 : wr.cell? ⟨bb, o + k * 12 + 11, none⟩ = some (.string (B x.payload)) := (hB.cell (p := ⟨bb, o + k * 12 + 11, none⟩) hbn).trans (hc 11 _ rfl)
      have HUB := Lib.hid (hub.below hB (Nat.le_refl _) hB.size)
      obtain ⟨xa, xc, rfl, _⟩ := id hub
      have k0 : (0 : Int) ≤ (k : Int) := by omega
      have k1 : (k : Int) < (l.length : Int) := by omega
      have HX := Lib.hid hx
      have hsz := hB.size
      clear hc hub hx hcell
      have HFX := Lib.hid (HF.out x (List.mem_of_getElem? HX.out))
      have b1 := bunR_len x
      have b2 := (textE_len (bunR x)).2
      obtain ⟨R, hR⟩ : ∃ q, bunR x = q := ⟨_, rfl⟩
      rw [hR] at b1 b2
      have HRR := Lib.hid hR
      obtain ⟨T, hT⟩ : ∃ q, textE R = q := ⟨_, rfl⟩
      rw [hT] at b2
      have HT := Lib.hid hT
      have hcat : ¬ 9223372036854775807 < S.length + T.length := by omega
      have HS2 : Hid (S ++ T = I ++ (l.take (k + 1)).flatMap (fun b => textE (bunR b))) := Lib.hid (by rw [List.take_add_one, HX.out, HS.out, ← HT.out, ← HRR.out]; simp)
      clear hR hT
      go_wp2_with fail
      refine (bunEncode_any x _ _ (HUB.out.below' (balloc0 (Below.refl _ _))) HFX.out).mono ?_
      rw [HRR.out]
      rintro e w1 ⟨rfl, hb1⟩
      have hB1 : Below w.heap.size w w1 := btrans0 (balloc0 hB) hb1
      clear hb1
      go_wp2_with fail
      refine (text_ok R _ (by omega)).mono ?_
      rw [HT.out]
      rintro e w2 ⟨rfl, hb2⟩
      have hB2 : Below w.heap.size w w2 := btrans0 hB1 hb2
      clear hb2
      go_wp2
      go_roundw
      case rel => exact ⟨k + 1, S ++ T, by omega, by go_num, rfl, HS2, hB2⟩
      case measure => simp [intOf]; omega
    · obtain rfl : k = l.length := by omega
      have HSs : Hid (payS l = S) := Lib.hid (by unfold payS; rw [HI.out, HS.out, List.take_length])
      go_wp2
      go_ret
      rw [HSs.out]
      exact ⟨rfl, hB⟩
end Go.Proofs.YtpkklmkeflddkaaGreat
