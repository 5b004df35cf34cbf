/- Joined by port.py: XQc XQd -/
import Derived.Test.YtmknchdciblfjaaGreatKaz
import Derived.Test.YtmknchdciblfjaaGreatJa
import Derived.Test.YtmknchdciblfjaaGreatJb
import Derived.Test.YtmknchdciblfjaaGreatJc
import Derived.Test.YtmknchdciblfjaaGreatJd
import Derived.Test.YtmknchdciblfjaaGreatJe
import Derived.Test.YtmknchdciblfjaaGreatJg
import Derived.Test.YtmknchdciblfjaaGreatJh
import Derived.Test.YtmknchdciblfjaaGreatJm
import Derived.Test.YtmknchdciblfjaaGreatJo
import Derived.Test.YtmknchdciblfjaaGreatJs
import Derived.Test.YtmknchdciblfjaaGreatJp
import Derived.Test.YtmknchdciblfjaaGreatJqz
import Derived.Test.YtmknchdciblfjaaGreatJw
set_option linter.unusedVariables false
set_option linter.unusedSimpArgs false
/-! XQc -/
namespace Go.Proofs.YtmknchdciblfjaaGreat
open Go Go.RowKit
attribute [local go_sem] B_getElem B_size B_app B_extract B_get B_toList
attribute [local go_sem] bunC
def crtS (l : List Bun) : Int := l.foldl (fun m b => if b.crt > m then b.crt else m) 0
def endS (l : List Bun) : Int := l.foldl (fun m b => if expS b < m then expS b else m) 1099511627776
theorem crtS_step {l : List Bun} {k : Nat} {x : Bun} (h : l[k]? = some x) : crtS (l.take (k + 1)) = if x.crt > crtS (l.take k) then x.crt else crtS (l.take k) := by
  unfold crtS; rw [List.take_add_one, h]; simp
theorem endS_step {l : List Bun} {k : Nat} {x : Bun} (h : l[k]? = some x) : endS (l.take (k + 1)) = if expS x < endS (l.take k) then expS x else endS (l.take k) := by
  unfold endS; rw [List.take_add_one, h]; simp
set_option maxRecDepth 100000 in
set_option maxHeartbeats 4000000 in
theorem times_any (l : List Bun) (v : Value) (w : World) (h : RBuns w w.heap.size v l) (hf : ∀ x ∈ l, Fits x) :
    Calls Tryz.prog 24 #[v] w fun e w' => e = .returned (.tuple #[.int .i64 (crtS l), .int .i64 (endS l)]) ∧ Below w.heap.size w w' := by
  have HF := Lib.hid hf
  obtain ⟨a, c, rfl, h1, h2, h3, h4⟩ := h
  unfold maxLen at h2
  have hlen : l.length ≤ 9223372036854775807 := by omega
  have H4 := Lib.hid h4
  clear h3 h4 hf
  go_enter Tryz.func24, Tryz.ntmps24
  go_wp2
  go_loopw [10, 4, 5] (fun i cr en wr => ∃ (k : Nat) (C E : Int), k ≤ l.length ∧ i = .int .i64 k ∧ cr = .int .i64 C ∧ en = .int .i64 E ∧ Hid (C = crtS (l.take k)) ∧ Hid (E = endS (l.take k)) ∧ Below w.heap.size w wr) (fun i _ _ _ => l.length - (intOf i).toNat)
  case atStart => exact ⟨0, 0, 1099511627776, Nat.zero_le _, rfl, rfl, rfl, Lib.hid (by simp [crtS]), Lib.hid (by simp [endS]), Below.refl _ _⟩
  case round =>
    obtain ⟨k, C, E, hk, rfl, rfl, rfl, HC, HE, hB⟩ := hrel
    by_cases hlt : k < l.length
    · skip
      obtain ⟨bb, o, rfl, hbn, hcell⟩ := H4.out (by omega)
      obtain ⟨x, hx⟩ : ∃ x, l[k]? = some x := ⟨_, List.getElem?_eq_getElem hlt⟩
      obtain ⟨ux, hc, hub⟩ := hcell k x hx
      have q0 : wr.cell? ⟨bb, o + k * 12, none⟩ = some (.int .i64 x.src) := (hB.cell (p := ⟨bb, o + k * 12 + 0, none⟩) hbn).trans (hc 0 _ rfl)
      have q1 : wr.cell? ⟨bb, o + k * 12 + 1, none⟩ = some (.int .i64 x.crt) := (hB.cell (p := ⟨bb, o + k * 12 + 1, none⟩) hbn).trans (hc 1 _ rfl)
      have q2 : wr.cell? ⟨bb, o + k * 12 + 2, none⟩ = some (.int .i64 x.seq) := (hB.cell (p := ⟨bb, o + k * 12 + 2, none⟩) hbn).trans (hc 2 _ rfl)
      have q3 : wr.cell? ⟨bb, o + k * 12 + 3, none⟩ = some (.int .i64 x.off) := (hB.cell (p := ⟨bb, o + k * 12 + 3, none⟩) hbn).trans (hc 3 _ rfl)
      have q4 : wr.cell? ⟨bb, o + k * 12 + 4, none⟩ = some (.int .i64 x.tot) := (hB.cell (p := ⟨bb, o + k * 12 + 4, none⟩) hbn).trans (hc 4 _ rfl)
      have q5 : wr.cell? ⟨bb, o + k * 12 + 5, none⟩ = some (.int .i64 x.dk) := (hB.cell (p := ⟨bb, o + k * 12 + 5, none⟩) hbn).trans (hc 5 _ rfl)
      have q6 : wr.cell? ⟨bb, o + k * 12 + 6, none⟩ = some (.int .i64 x.dn) := (hB.cell (p := ⟨bb, o + k * 12 + 6, none⟩) hbn).trans (hc 6 _ rfl)
      have q7 : wr.cell? ⟨bb, o + k * 12 + 7, none⟩ = some (.int .i64 x.life) := (hB.cell (p := ⟨bb, o + k * 12 + 7, none⟩) hbn).trans (hc 7 _ rfl)
      have q8 : wr.cell? ⟨bb, o + k * 12 + 8, none⟩ = some (.int .i64 x.prio) := (hB.cell (p := ⟨bb, o + k * 12 + 8, none⟩) hbn).trans (hc 8 _ rfl)
      have q9 : wr.cell? ⟨bb, o + k * 12 + 9, none⟩ = some (.int .i64 x.flags) := (hB.cell (p := ⟨bb, o + k * 12 + 9, none⟩) hbn).trans (hc 9 _ rfl)
      have q10 : wr.cell? ⟨bb, o + k * 12 + 10, none⟩ = some (ux) := (hB.cell (p := ⟨bb, o + k * 12 + 10, none⟩) hbn).trans (hc 10 _ rfl)
      have q11 : wr.cell? ⟨bb, o + k * 12 + 11, none⟩ = some (.string (B x.payload)) := (hB.cell (p := ⟨bb, o + k * 12 + 11, none⟩) hbn).trans (hc 11 _ rfl)
      have HUB := Lib.hid (hub.below hB (Nat.le_refl _) hB.size)
      obtain ⟨xa, xc, rfl, _⟩ := id hub
      have k0 : (0 : Int) ≤ (k : Int) := by omega
      have k1 : (k : Int) < (l.length : Int) := by omega
      have HX := Lib.hid hx
      have hsz := hB.size
      clear hc hub hx hcell
      have HFX := Lib.hid (HF.out x (List.mem_of_getElem? HX.out))
      have HC2 := Lib.hid (crtS_step HX.out)
      have HE2 := Lib.hid (endS_step HX.out)
      obtain ⟨X, hX⟩ : ∃ q, expS x = q := ⟨_, rfl⟩
      have HEX := Lib.hid hX
      clear hX
      go_wp2
      have AC : (wr.alloc (.cells (bunC x (.slice xa x.blocks.length xc)).toArray 32)).heap[wr.heap.size]? = some (.cells (bunC x (.slice xa x.blocks.length xc)).toArray 32 (0, 0)) := heap_new
      have B9 : Below w.heap.size w (wr.alloc (.cells (bunC x (.slice xa x.blocks.length xc)).toArray 32)) := balloc0 hB
      have R9 := HUB.out.below' (balloc0 (o := .cells (bunC x (.slice xa x.blocks.length xc)).toArray 32) (Below.refl _ _))
      have z9 : wr.heap.size < (wr.alloc (.cells (bunC x (.slice xa x.blocks.length xc)).toArray 32)).heap.size := by simp
      simp only [bunC] at AC B9 R9 z9
      generalize wr.alloc (.cells _ _) = W9 at *
      have HX9 := Lib.hid R9
      have cc := fun o => cellB AC o
      have HAC := Lib.hid AC
      clear R9 AC
      refine wp_region_plan (fun V => Below (W9).heap.size (W9) V) [0, 0, 0, 1, 0, 0, 1, 2, 0, 0, 0] [0, 1, 2, 3, 4, 5, 6, 7, 8, 9, 10] (by kernel_rfl) (by kernel_rfl) ?_ ?_
      case refine_1 => exact belowA
      (iterate 7 (first | (refine plan_held rfl (by decide) (by rfl) (fun w1 hS => by (try (obtain ⟨_, _⟩ := bcell (hS rfl))); go_simp; rfl) ?_; simp only [Act.put, List.setIfInBounds_toArray, List.set_cons_zero, List.set_cons_succ]) | (refine plan_skip rfl (by decide) (by rfl) ?_; simp only [Act.put, List.setIfInBounds_toArray, List.set_cons_zero, List.set_cons_succ])))
      (refine plan_keep rfl rfl (by rfl) (fun K hK => ?_); go_simp)
      refine (expires_any x _ _ (HX9.out.below' belowA) HFX.out).mono ?_
      rw [HEX.out]
      rintro e wc21 ⟨rfl, hbc21⟩
      (refine hK _ _ (by exact belowA) ?_; clear hK K; (try simp only [Act.put, List.setIfInBounds_toArray, List.set_cons_zero, List.set_cons_succ]))
      (iterate 3 (first | (refine plan_held rfl (by decide) (by rfl) (fun w1 hS => by (try (obtain ⟨_, _⟩ := bcell (hS rfl))); go_simp; rfl) ?_; simp only [Act.put, List.setIfInBounds_toArray, List.set_cons_zero, List.set_cons_succ]) | (refine plan_skip rfl (by decide) (by rfl) ?_; simp only [Act.put, List.setIfInBounds_toArray, List.set_cons_zero, List.set_cons_succ])))
      refine plan_done ?_
      go_wp2
      go_roundw
      case rel =>
        refine ⟨k + 1, _, _, by omega, by go_num, rfl, rfl, Lib.hid ?_, Lib.hid ?_, belowA⟩
        · rw [HC2.out, ← HC.out]
        · rw [HE2.out, ← HE.out, HEX.out]
      case measure => simp [intOf]; omega
    · obtain rfl : k = l.length := by omega
      have HCc : Hid (C = crtS l) := Lib.hid (by rw [HC.out, List.take_length])
      have HEe : Hid (E = endS l) := Lib.hid (by rw [HE.out, List.take_length])
      go_wp2
      go_ret2
      rw [← HCc.out, ← HEe.out]
      exact ⟨rfl, hB⟩
set_option maxRecDepth 100000 in
set_option maxHeartbeats 4000000 in
theorem alive_any (l : List Bun) (v : Value) (w : World) (h : RBuns w w.heap.size v l) (hf : ∀ x ∈ l, Fits x) :
    Calls Tryz.prog 22 #[v] w fun e w' => e = .returned (.bool (decide (crtS l < endS l))) ∧ Below w.heap.size w w' := by
  have HR := Lib.hid h
  have HF := Lib.hid hf
  obtain ⟨C, hC⟩ : ∃ q, crtS l = q := ⟨_, rfl⟩
  obtain ⟨E, hE⟩ : ∃ q, endS l = q := ⟨_, rfl⟩
  have HC := Lib.hid hC
  have HE := Lib.hid hE
  rw [hC, hE]
  clear h hf hC hE
  go_enter Tryz.func22, Tryz.ntmps22
  go_wp2_with fail
  refine (times_any l _ _ HR.out HF.out).mono ?_
  rw [HC.out, HE.out]
  rintro e w1 ⟨rfl, hb1⟩
  go_wp2
  go_ret
  exact ⟨rfl, hb1⟩
/-- the joined payload -/
def payS (l : List Bun) : List UInt8 := intE l.length ++ l.flatMap (fun b => textE (bunR b))
theorem pay_take (l : List Bun) (k : Nat) : ((l.take k).flatMap (fun b => textE (bunR b))).length ≤ 30011 * l.length := by
  have : ∀ m : List Bun, (m.flatMap (fun b => textE (bunR b))).length ≤ 30011 * m.length := fun m => by
    induction m with
    | nil => simp
    | cons x r ih =>
      rw [List.flatMap_cons, List.length_append, List.length_cons]
      have := (textE_len (bunR x)).2
      have := bunR_len x
      omega
  have h := this (l.take k)
  rw [List.length_take] at h
  have : min k l.length ≤ l.length := Nat.min_le_right _ _
  have := Nat.mul_le_mul_left 30011 this
  omega
set_option maxRecDepth 100000 in
set_option maxHeartbeats 4000000 in
theorem payload_any (l : List Bun) (v : Value) (w : World) (h : RBuns w w.heap.size v l) (hf : ∀ x ∈ l, Fits x) (hl : l.length ≤ 20000) :
    Calls Tryz.prog 23 #[v] w fun e w' => e = .returned (.string (B (payS l))) ∧ Below w.heap.size w w' := by
  have HF := Lib.hid hf
  obtain ⟨a, c, rfl, h1, h2, h3, h4⟩ := h
  unfold maxLen at h2
  have hlen : l.length ≤ 9223372036854775807 := by omega
  have H4 := Lib.hid h4
  clear h3 h4 hf
  have i1 := (intE_len (l.length : Int)).2
  obtain ⟨I, hI⟩ : ∃ q, intE (l.length : Int) = q := ⟨_, rfl⟩
  have HI := Lib.hid hI
  rw [hI] at i1
  clear hI
  go_enter Tryz.func23, Tryz.ntmps23
  go_wp2_with fail
  refine (int_any (l.length : Int) _ (by omega) (by omega)).mono ?_
  rw [HI.out]
  rintro e w0 ⟨rfl, hb0⟩
  go_wp2
  go_loopw [19, 3] (fun i s wr => ∃ (k : Nat) (S : List UInt8), k ≤ l.length ∧ i = .int .i64 k ∧ s = .string (B S) ∧ Hid (S = I ++ (l.take k).flatMap (fun b => textE (bunR b))) ∧ Below w.heap.size w wr) (fun i _ _ => l.length - (intOf i).toNat)
  case atStart => exact ⟨0, I, Nat.zero_le _, rfl, rfl, Lib.hid (by simp), hb0⟩
  case round =>
    obtain ⟨k, S, hk, rfl, rfl, HS, hB⟩ := hrel
    have hSl : S.length ≤ 11 + 30011 * l.length := by
      have := congrArg List.length HS.out
      rw [List.length_append] at this
      have := pay_take l k
      omega
    by_cases hlt : k < l.length
    · skip
      obtain ⟨bb, o, rfl, hbn, hcell⟩ := H4.out (by omega)
      obtain ⟨x, hx⟩ : ∃ x, l[k]? = some x := ⟨_, List.getElem?_eq_getElem hlt⟩
      obtain ⟨ux, hc, hub⟩ := hcell k x hx
      have q0 : wr.cell? ⟨bb, o + k * 12, none⟩ = some (.int .i64 x.src) := (hB.cell (p := ⟨bb, o + k * 12 + 0, none⟩) hbn).trans (hc 0 _ rfl)
      have q1 : wr.cell? ⟨bb, o + k * 12 + 1, none⟩ = some (.int .i64 x.crt) := (hB.cell (p := ⟨bb, o + k * 12 + 1, none⟩) hbn).trans (hc 1 _ rfl)
      have q2 : wr.cell? ⟨bb, o + k * 12 + 2, none⟩ = some (.int .i64 x.seq) := (hB.cell (p := ⟨bb, o + k * 12 + 2, none⟩) hbn).trans (hc 2 _ rfl)
      have q3 : wr.cell? ⟨bb, o + k * 12 + 3, none⟩ = some (.int .i64 x.off) := (hB.cell (p := ⟨bb, o + k * 12 + 3, none⟩) hbn).trans (hc 3 _ rfl)
      have q4 : wr.cell? ⟨bb, o + k * 12 + 4, none⟩ = some (.int .i64 x.tot) := (hB.cell (p := ⟨bb, o + k * 12 + 4, none⟩) hbn).trans (hc 4 _ rfl)
      have q5 : wr.cell? ⟨bb, o + k * 12 + 5, none⟩ = some (.int .i64 x.dk) := (hB.cell (p := ⟨bb, o + k * 12 + 5, none⟩) hbn).trans (hc 5 _ rfl)
      have q6 : wr.cell? ⟨bb, o + k * 12 + 6, none⟩ = some (.int .i64 x.dn) := (hB.cell (p := ⟨bb, o + k * 12 + 6, none⟩) hbn).trans (hc 6 _ rfl)
      have q7 : wr.cell? ⟨bb, o + k * 12 + 7, none⟩ = some (.int .i64 x.life) := (hB.cell (p := ⟨bb, o + k * 12 + 7, none⟩) hbn).trans (hc 7 _ rfl)
      have q8 : wr.cell? ⟨bb, o + k * 12 + 8, none⟩ = some (.int .i64 x.prio) := (hB.cell (p := ⟨bb, o + k * 12 + 8, none⟩) hbn).trans (hc 8 _ rfl)
      have q9 : wr.cell? ⟨bb, o + k * 12 + 9, none⟩ = some (.int .i64 x.flags) := (hB.cell (p := ⟨bb, o + k * 12 + 9, none⟩) hbn).trans (hc 9 _ rfl)
      have q10 : wr.cell? ⟨bb, o + k * 12 + 10, none⟩ = some (ux) := (hB.cell (p := ⟨bb, o + k * 12 + 10, none⟩) hbn).trans (hc 10 _ rfl)
      have q11 : wr.cell? ⟨bb, o + k * 12 + 11, none⟩ = some (.string (B x.payload)) := (hB.cell (p := ⟨bb, o + k * 12 + 11, none⟩) hbn).trans (hc 11 _ rfl)
      have HUB := Lib.hid (hub.below hB (Nat.le_refl _) hB.size)
      obtain ⟨xa, xc, rfl, _⟩ := id hub
      have k0 : (0 : Int) ≤ (k : Int) := by omega
      have k1 : (k : Int) < (l.length : Int) := by omega
      have HX := Lib.hid hx
      have hsz := hB.size
      clear hc hub hx hcell
      have HFX := Lib.hid (HF.out x (List.mem_of_getElem? HX.out))
      have b1 := bunR_len x
      have b2 := (textE_len (bunR x)).2
      obtain ⟨R, hR⟩ : ∃ q, bunR x = q := ⟨_, rfl⟩
      rw [hR] at b1 b2
      have HRR := Lib.hid hR
      obtain ⟨T, hT⟩ : ∃ q, textE R = q := ⟨_, rfl⟩
      rw [hT] at b2
      have HT := Lib.hid hT
      have hcat : ¬ 9223372036854775807 < S.length + T.length := by omega
      have HS2 : Hid (S ++ T = I ++ (l.take (k + 1)).flatMap (fun b => textE (bunR b))) := Lib.hid (by rw [List.take_add_one, HX.out, HS.out, ← HT.out, ← HRR.out]; simp)
      clear hR hT
      go_wp2_with fail
      refine (bunEncode_any x _ _ (HUB.out.below' (balloc0 (Below.refl _ _))) HFX.out).mono ?_
      rw [HRR.out]
      rintro e w1 ⟨rfl, hb1⟩
      have hB1 : Below w.heap.size w w1 := btrans0 (balloc0 hB) hb1
      clear hb1
      go_wp2_with fail
      refine (text_ok R _ (by omega)).mono ?_
      rw [HT.out]
      rintro e w2 ⟨rfl, hb2⟩
      have hB2 : Below w.heap.size w w2 := btrans0 hB1 hb2
      clear hb2
      go_wp2
      go_roundw
      case rel => exact ⟨k + 1, S ++ T, by omega, by go_num, rfl, HS2, hB2⟩
      case measure => simp [intOf]; omega
    · obtain rfl : k = l.length := by omega
      have HSs : Hid (payS l = S) := Lib.hid (by unfold payS; rw [HI.out, HS.out, List.take_length])
      go_wp2
      go_ret
      rw [HSs.out]
      exact ⟨rfl, hB⟩
end Go.Proofs.YtmknchdciblfjaaGreat
/-! XQd -/
namespace Go.Proofs.YtmknchdciblfjaaGreat
open Go Go.RowKit
attribute [local go_sem] B_getElem B_size B_app B_extract B_get B_toList
attribute [local go_sem] bunC
def custB (b : Bun) : Bool := hasF b.flags 1
theorem and_one (f : Int) (h1 : 0 ≤ f) (h2 : f ≤ 127) : bits .and .i64 f 1 = if hasF f 1 = true then 1 else 0 := by
  obtain ⟨n, rfl⟩ := Int.eq_ofNat_of_zero_le h1
  have h : ∀ n : Fin 128, bits .and .i64 (n.val : Int) 1 = if hasF (n.val : Int) 1 = true then 1 else 0 := by decide +kernel
  exact h ⟨n, by omega⟩
def joinF (l : List Bun) : Int := if l.any custB = true then 65 else 64
theorem joinF_step {l : List Bun} {k : Nat} {x : Bun} (h : l[k]? = some x) (h1 : 0 ≤ x.flags) (h2 : x.flags ≤ 127) : bits .or .i64 (joinF (l.take k)) (bits .and .i64 x.flags 1) = joinF (l.take (k + 1)) := by
  rw [and_one _ h1 h2]
  unfold joinF
  rw [List.take_add_one, h]
  simp only [Option.toList, List.any_append, List.any_cons, List.any_nil, Bool.or_false]
  show bits .or .i64 _ (if custB x = true then 1 else 0) = _
  cases (l.take k).any custB <;> cases custB x <;> decide
/-- what Join answers -/
def joinS (l : List Bun) (seq : Int) : Bun × Int := if chkJ l ≠ 0 then (zBun, chkJ l) else if seq < 0 ∨ 1099511627776 < seq then (zBun, 2) else if ¬ crtS l < endS l then (zBun, 17) else if 4096 < (payS l).length then (zBun, 4)
  else match l with
    | [] => (zBun, 20)
    | y :: r => (⟨y.src, crtS l, seq, 0, 0, y.dk, y.dn, endS l - crtS l, y.prio, joinF l, [], payS l⟩, 0)
def JoinPost (r : Bun × Int) (w : World) (e : Ending) (w' : World) : Prop := e = .returned (.tuple #[.agg (bunC r.1 (.slice none 0 0)).toArray, .int .i64 r.2]) ∧ Below w.heap.size w w'
theorem times_range {l : List Bun} (h : ∀ x ∈ l, chkE x = 0) : 0 ≤ crtS l ∧ crtS l ≤ 1099511627776 ∧ 0 ≤ endS l ∧ endS l ≤ 1099511627776 := by
  have hc : ∀ (m : List Bun) (a : Int), (∀ x ∈ m, chkE x = 0) → 0 ≤ a → a ≤ 1099511627776 → 0 ≤ m.foldl (fun m b => if b.crt > m then b.crt else m) a ∧ m.foldl (fun m b => if b.crt > m then b.crt else m) a ≤ 1099511627776 := by
    intro m
    induction m with
    | nil => intro a _ h1 h2; exact ⟨h1, h2⟩
    | cons x r ih =>
      intro a hm h1 h2
      have := exp_facts (hm x (by simp))
      rw [List.foldl_cons]
      exact ih _ (fun y hy => hm y (by simp [hy])) (by split <;> omega) (by split <;> omega)
  have he : ∀ (m : List Bun) (a : Int), (∀ x ∈ m, chkE x = 0) → 0 ≤ a → a ≤ 1099511627776 → 0 ≤ m.foldl (fun m b => if expS b < m then expS b else m) a ∧ m.foldl (fun m b => if expS b < m then expS b else m) a ≤ 1099511627776 := by
    intro m
    induction m with
    | nil => intro a _ h1 h2; exact ⟨h1, h2⟩
    | cons x r ih =>
      intro a hm h1 h2
      have := exp_facts (hm x (by simp))
      have hx : expS x = x.crt + x.life := by unfold expS; rw [if_neg (by simp [hm x (by simp)])]
      rw [List.foldl_cons]
      exact ih _ (fun y hy => hm y (by simp [hy])) (by rw [hx]; split <;> omega) (by rw [hx]; split <;> omega)
  have h1 := hc l 0 h (by omega) (by omega)
  have h2 := he l 1099511627776 h (by omega) (by omega)
  exact ⟨h1.1, h1.2, h2.1, h2.2⟩
theorem chkJ_zero {l : List Bun} (h : chkJ l = 0) : ∃ y r, l = y :: r ∧ (∀ x ∈ l, chkE x = 0) ∧ l.any joinedB = false ∧ l.any (misB y) = false := by
  cases l with
  | nil => cases h
  | cons y r =>
    have h : (if (y :: r).any (fun x => chkE x != 0) = true then (1 : Int) else if (y :: r).any joinedB = true then 8 else if (y :: r).any (misB y) = true then 10 else 0) = 0 := h
    split at h
    · cases h
    · rename_i h1
      split at h
      · cases h
      · rename_i h2
        split at h
        · cases h
        · rename_i h3
          exact ⟨y, r, rfl, any_chk (by simpa using h1), by simpa using h2, by simpa using h3⟩
set_option maxRecDepth 100000 in
set_option maxHeartbeats 16000000 in
theorem join_any (l : List Bun) (v : Value) (seq : Int) (w : World) (h : RBuns w w.heap.size v l) (hf : ∀ x ∈ l, Fits x) (hl : l.length ≤ 20000) :
    Calls Tryz.prog 6 #[v, .int .i64 seq] w (JoinPost (joinS l seq) w) := by
  have HR := Lib.hid h
  have HF := Lib.hid hf
  obtain ⟨a, c, rfl, _, _, _, h4⟩ := id h
  have H4 := Lib.hid h4
  obtain ⟨S, hS⟩ : ∃ q, joinS l seq = q := ⟨_, rfl⟩
  rw [hS]
  have hS0 := hS
  unfold joinS at hS
  obtain ⟨J, hJ⟩ : ∃ q, chkJ l = q := ⟨_, rfl⟩
  obtain ⟨C, hC⟩ : ∃ q, crtS l = q := ⟨_, rfl⟩
  obtain ⟨E, hE⟩ : ∃ q, endS l = q := ⟨_, rfl⟩
  obtain ⟨P, hP⟩ : ∃ q, payS l = q := ⟨_, rfl⟩
  rw [hJ, hC, hE, hP] at hS
  have HJ := Lib.hid hJ
  have HC := Lib.hid hC
  have HE := Lib.hid hE
  have HP := Lib.hid hP
  clear h hf h4 hS0
  by_cases j0 : J = 0
  case neg =>
    rw [if_pos j0] at hS
    subst hS
    have j1 : (J != 0) = true := by rw [bne_iff_ne]; exact j0
    clear hJ hC hE hP j0
    go_enter Tryz.func6, Tryz.ntmps6
    go_wp2_with fail
    refine (checkJ_any l _ _ (HR.out.below'' (balloc0 (Below.refl _ _))) HF.out).mono ?_
    rw [HJ.out]
    rintro e w1 ⟨rfl, hb1⟩
    have b1 : Below w.heap.size w w1 := btrans0 (balloc0 (Below.refl _ _)) hb1
    have z1 : w.heap.size < w1.heap.size := by have := hb1.size; (try simp at this); omega
    have R1 : Hid (w1.heap[w.heap.size]? = some (.cells #[.int .i64 0, .int .i64 0, .int .i64 0, .int .i64 0, .int .i64 0, .int .i64 0, .int .i64 0, .int .i64 0, .int .i64 0, .int .i64 0, .slice none 0 0, .string ⟨#[]⟩] 32 (0, 0))) := Lib.hid ((hb1.block _ (by simp)).trans heap_new)
    have cr := fun o => cellB R1.out o
    have fr := fun o => frozenB R1.out o
    clear hb1
    go_wp2_with fail
    refine bodyPost_ret (v := .tuple #[.agg #[.int .i64 0, .int .i64 0, .int .i64 0, .int .i64 0, .int .i64 0, .int .i64 0, .int .i64 0, .int .i64 0, .int .i64 0, .int .i64 0, .slice none 0 0, .string ⟨#[]⟩], .int .i64 J]) (by simp [results, Tryz.results6, go_sem, World.cell?_setCell_same', cr, z1]) rfl ?_
    unfold JoinPost
    exact ⟨rfl, belowA⟩
  rw [if_neg (by simpa using j0)] at hS
  subst j0
  by_cases r : seq < 0 ∨ 1099511627776 < seq
  · rw [if_pos r] at hS
    subst hS
    by_cases r1 : seq < 0
    · clear hJ hC hE hP r
      go_enter Tryz.func6, Tryz.ntmps6
      go_wp2_with fail
      refine (checkJ_any l _ _ (HR.out.below'' (balloc0 (Below.refl _ _))) HF.out).mono ?_
      rw [HJ.out]
      rintro e w1 ⟨rfl, hb1⟩
      have b1 : Below w.heap.size w w1 := btrans0 (balloc0 (Below.refl _ _)) hb1
      have z1 : w.heap.size < w1.heap.size := by have := hb1.size; (try simp at this); omega
      have R1 : Hid (w1.heap[w.heap.size]? = some (.cells #[.int .i64 0, .int .i64 0, .int .i64 0, .int .i64 0, .int .i64 0, .int .i64 0, .int .i64 0, .int .i64 0, .int .i64 0, .int .i64 0, .slice none 0 0, .string ⟨#[]⟩] 32 (0, 0))) := Lib.hid ((hb1.block _ (by simp)).trans heap_new)
      have cr := fun o => cellB R1.out o
      have fr := fun o => frozenB R1.out o
      clear hb1
      go_wp2_with fail
      refine bodyPost_ret (v := .tuple #[.agg #[.int .i64 0, .int .i64 0, .int .i64 0, .int .i64 0, .int .i64 0, .int .i64 0, .int .i64 0, .int .i64 0, .int .i64 0, .int .i64 0, .slice none 0 0, .string ⟨#[]⟩], .int .i64 2]) (by simp [results, Tryz.results6, go_sem, World.cell?_setCell_same', cr, z1]) rfl ?_
      unfold JoinPost
      exact ⟨rfl, belowA⟩
    · have r2 : 1099511627776 < seq := by omega
      clear hJ hC hE hP r
      go_enter Tryz.func6, Tryz.ntmps6
      go_wp2_with fail
      refine (checkJ_any l _ _ (HR.out.below'' (balloc0 (Below.refl _ _))) HF.out).mono ?_
      rw [HJ.out]
      rintro e w1 ⟨rfl, hb1⟩
      have b1 : Below w.heap.size w w1 := btrans0 (balloc0 (Below.refl _ _)) hb1
      have z1 : w.heap.size < w1.heap.size := by have := hb1.size; (try simp at this); omega
      have R1 : Hid (w1.heap[w.heap.size]? = some (.cells #[.int .i64 0, .int .i64 0, .int .i64 0, .int .i64 0, .int .i64 0, .int .i64 0, .int .i64 0, .int .i64 0, .int .i64 0, .int .i64 0, .slice none 0 0, .string ⟨#[]⟩] 32 (0, 0))) := Lib.hid ((hb1.block _ (by simp)).trans heap_new)
      have cr := fun o => cellB R1.out o
      have fr := fun o => frozenB R1.out o
      clear hb1
      go_wp2_with fail
      refine bodyPost_ret (v := .tuple #[.agg #[.int .i64 0, .int .i64 0, .int .i64 0, .int .i64 0, .int .i64 0, .int .i64 0, .int .i64 0, .int .i64 0, .int .i64 0, .int .i64 0, .slice none 0 0, .string ⟨#[]⟩], .int .i64 2]) (by simp [results, Tryz.results6, go_sem, World.cell?_setCell_same', cr, z1]) rfl ?_
      unfold JoinPost
      exact ⟨rfl, belowA⟩
  rw [if_neg r] at hS
  rw [not_or] at r
  obtain ⟨r1, r2⟩ := r
  by_cases ra : C < E
  case neg =>
    rw [if_pos ra] at hS
    subst hS
    have ra2 : decide (C < E) = false := decide_eq_false ra
    clear hJ hC hE hP ra
    go_enter Tryz.func6, Tryz.ntmps6
    go_wp2_with fail
    refine (checkJ_any l _ _ (HR.out.below'' (balloc0 (Below.refl _ _))) HF.out).mono ?_
    rw [HJ.out]
    rintro e w1 ⟨rfl, hb1⟩
    have b1 : Below w.heap.size w w1 := btrans0 (balloc0 (Below.refl _ _)) hb1
    have z1 : w.heap.size < w1.heap.size := by have := hb1.size; (try simp at this); omega
    have R1 : Hid (w1.heap[w.heap.size]? = some (.cells #[.int .i64 0, .int .i64 0, .int .i64 0, .int .i64 0, .int .i64 0, .int .i64 0, .int .i64 0, .int .i64 0, .int .i64 0, .int .i64 0, .slice none 0 0, .string ⟨#[]⟩] 32 (0, 0))) := Lib.hid ((hb1.block _ (by simp)).trans heap_new)
    have cr := fun o => cellB R1.out o
    have fr := fun o => frozenB R1.out o
    clear hb1
    go_wp2_with fail
    refine (alive_any l _ _ (HR.out.below'' b1) HF.out).mono ?_
    rw [HC.out, HE.out]
    rintro e w2 ⟨rfl, hb2⟩
    have b2 : Below w.heap.size w w2 := btrans0 b1 hb2
    have z2 : w.heap.size < w2.heap.size := by have := hb2.size; (try simp at this); omega
    have R2 : Hid (w2.heap[w.heap.size]? = some (.cells #[.int .i64 0, .int .i64 0, .int .i64 0, .int .i64 0, .int .i64 0, .int .i64 0, .int .i64 0, .int .i64 0, .int .i64 0, .int .i64 0, .slice none 0 0, .string ⟨#[]⟩] 32 (0, 0))) := Lib.hid ((hb2.block _ z1).trans R1.out)
    clear cr fr
    have cr := fun o => cellB R2.out o
    have fr := fun o => frozenB R2.out o
    clear hb2
    go_wp2_with fail
    refine bodyPost_ret (v := .tuple #[.agg #[.int .i64 0, .int .i64 0, .int .i64 0, .int .i64 0, .int .i64 0, .int .i64 0, .int .i64 0, .int .i64 0, .int .i64 0, .int .i64 0, .slice none 0 0, .string ⟨#[]⟩], .int .i64 17]) (by simp [results, Tryz.results6, go_sem, World.cell?_setCell_same', cr, z2]) rfl ?_
    unfold JoinPost
    exact ⟨rfl, belowA⟩
  rw [if_neg (by simpa using ra)] at hS
  have ra2 : decide (C < E) = true := decide_eq_true ra
  by_cases rp : 4096 < P.length
  · rw [if_pos rp] at hS
    subst hS
    have rp2 : (4096 : Int) < (P.length : Int) := by omega
    clear hJ hC hE hP ra rp
    go_enter Tryz.func6, Tryz.ntmps6
    go_wp2_with fail
    refine (checkJ_any l _ _ (HR.out.below'' (balloc0 (Below.refl _ _))) HF.out).mono ?_
    rw [HJ.out]
    rintro e w1 ⟨rfl, hb1⟩
    have b1 : Below w.heap.size w w1 := btrans0 (balloc0 (Below.refl _ _)) hb1
    have z1 : w.heap.size < w1.heap.size := by have := hb1.size; (try simp at this); omega
    have R1 : Hid (w1.heap[w.heap.size]? = some (.cells #[.int .i64 0, .int .i64 0, .int .i64 0, .int .i64 0, .int .i64 0, .int .i64 0, .int .i64 0, .int .i64 0, .int .i64 0, .int .i64 0, .slice none 0 0, .string ⟨#[]⟩] 32 (0, 0))) := Lib.hid ((hb1.block _ (by simp)).trans heap_new)
    have cr := fun o => cellB R1.out o
    have fr := fun o => frozenB R1.out o
    clear hb1
    go_wp2_with fail
    refine (alive_any l _ _ (HR.out.below'' b1) HF.out).mono ?_
    rw [HC.out, HE.out]
    rintro e w2 ⟨rfl, hb2⟩
    have b2 : Below w.heap.size w w2 := btrans0 b1 hb2
    have z2 : w.heap.size < w2.heap.size := by have := hb2.size; (try simp at this); omega
    have R2 : Hid (w2.heap[w.heap.size]? = some (.cells #[.int .i64 0, .int .i64 0, .int .i64 0, .int .i64 0, .int .i64 0, .int .i64 0, .int .i64 0, .int .i64 0, .int .i64 0, .int .i64 0, .slice none 0 0, .string ⟨#[]⟩] 32 (0, 0))) := Lib.hid ((hb2.block _ z1).trans R1.out)
    clear cr fr
    have cr := fun o => cellB R2.out o
    have fr := fun o => frozenB R2.out o
    clear hb2
    go_wp2_with fail
    refine (payload_any l _ _ (HR.out.below'' b2) HF.out hl).mono ?_
    rw [HP.out]
    rintro e w3 ⟨rfl, hb3⟩
    have b3 : Below w.heap.size w w3 := btrans0 b2 hb3
    have z3 : w.heap.size < w3.heap.size := by have := hb3.size; (try simp at this); omega
    have R3 : Hid (w3.heap[w.heap.size]? = some (.cells #[.int .i64 0, .int .i64 0, .int .i64 0, .int .i64 0, .int .i64 0, .int .i64 0, .int .i64 0, .int .i64 0, .int .i64 0, .int .i64 0, .slice none 0 0, .string ⟨#[]⟩] 32 (0, 0))) := Lib.hid ((hb3.block _ z2).trans R2.out)
    clear cr fr
    have cr := fun o => cellB R3.out o
    have fr := fun o => frozenB R3.out o
    clear hb3
    go_wp2_with fail
    refine bodyPost_ret (v := .tuple #[.agg #[.int .i64 0, .int .i64 0, .int .i64 0, .int .i64 0, .int .i64 0, .int .i64 0, .int .i64 0, .int .i64 0, .int .i64 0, .int .i64 0, .slice none 0 0, .string ⟨#[]⟩], .int .i64 4]) (by simp [results, Tryz.results6, go_sem, World.cell?_setCell_same', cr, z3]) rfl ?_
    unfold JoinPost
    exact ⟨rfl, belowA⟩
  rw [if_neg rp] at hS
  have rp2 : ¬ (4096 : Int) < (P.length : Int) := by omega
  obtain ⟨y, rr, hly, hall, _, _⟩ := chkJ_zero hJ
  have htr := times_range hall
  rw [hC, hE] at htr
  obtain ⟨t1, t2, t3, t4⟩ := htr
  have HALL := Lib.hid hall
  have hlp : 0 < l.length := by rw [hly]; simp
  have hl0 : l[0]? = some y := by rw [hly]; rfl
  rw [hly] at hS
  simp only at hS
  have HS : Hid ((⟨y.src, C, seq, 0, 0, y.dk, y.dn, E - C, y.prio, joinF l, [], P⟩, 0) = S) := Lib.hid (by rw [hly]; exact hS)
  have HL0 := Lib.hid hl0
  have hlI : (0 : Int) < (l.length : Int) := by omega
  have hEC : IntKind.i64.wrap (E - C) = E - C := by rw [IntKind.wrap_i64]; omega
  clear hS hly hl0 hJ hC hE hP ra rp hall
  go_enter Tryz.func6, Tryz.ntmps6
  go_wp2_with fail
  refine (checkJ_any l _ _ (HR.out.below'' (balloc0 (Below.refl _ _))) HF.out).mono ?_
  rw [HJ.out]
  rintro e w1 ⟨rfl, hb1⟩
  have b1 : Below w.heap.size w w1 := btrans0 (balloc0 (Below.refl _ _)) hb1
  have z1 : w.heap.size < w1.heap.size := by have := hb1.size; (try simp at this); omega
  have R1 : Hid (w1.heap[w.heap.size]? = some (.cells #[.int .i64 0, .int .i64 0, .int .i64 0, .int .i64 0, .int .i64 0, .int .i64 0, .int .i64 0, .int .i64 0, .int .i64 0, .int .i64 0, .slice none 0 0, .string ⟨#[]⟩] 32 (0, 0))) := Lib.hid ((hb1.block _ (by simp)).trans heap_new)
  have cr := fun o => cellB R1.out o
  have fr := fun o => frozenB R1.out o
  clear hb1
  go_wp2_with fail
  refine (alive_any l _ _ (HR.out.below'' b1) HF.out).mono ?_
  rw [HC.out, HE.out]
  rintro e w2 ⟨rfl, hb2⟩
  have b2 : Below w.heap.size w w2 := btrans0 b1 hb2
  have z2 : w.heap.size < w2.heap.size := by have := hb2.size; (try simp at this); omega
  have R2 : Hid (w2.heap[w.heap.size]? = some (.cells #[.int .i64 0, .int .i64 0, .int .i64 0, .int .i64 0, .int .i64 0, .int .i64 0, .int .i64 0, .int .i64 0, .int .i64 0, .int .i64 0, .slice none 0 0, .string ⟨#[]⟩] 32 (0, 0))) := Lib.hid ((hb2.block _ z1).trans R1.out)
  clear cr fr
  have cr := fun o => cellB R2.out o
  have fr := fun o => frozenB R2.out o
  clear hb2
  go_wp2_with fail
  refine (payload_any l _ _ (HR.out.below'' b2) HF.out hl).mono ?_
  rw [HP.out]
  rintro e w3 ⟨rfl, hb3⟩
  have b3 : Below w.heap.size w w3 := btrans0 b2 hb3
  have z3 : w.heap.size < w3.heap.size := by have := hb3.size; (try simp at this); omega
  have R3 : Hid (w3.heap[w.heap.size]? = some (.cells #[.int .i64 0, .int .i64 0, .int .i64 0, .int .i64 0, .int .i64 0, .int .i64 0, .int .i64 0, .int .i64 0, .int .i64 0, .int .i64 0, .slice none 0 0, .string ⟨#[]⟩] 32 (0, 0))) := Lib.hid ((hb3.block _ z2).trans R2.out)
  clear cr fr
  have cr := fun o => cellB R3.out o
  have fr := fun o => frozenB R3.out o
  clear hb3
  go_wp2_with fail
  refine (times_any l _ _ (HR.out.below'' b3) HF.out).mono ?_
  rw [HC.out, HE.out]
  rintro e w4 ⟨rfl, hb4⟩
  have b4 : Below w.heap.size w w4 := btrans0 b3 hb4
  have z4 : w.heap.size < w4.heap.size := by have := hb4.size; (try simp at this); omega
  have R4 : Hid (w4.heap[w.heap.size]? = some (.cells #[.int .i64 0, .int .i64 0, .int .i64 0, .int .i64 0, .int .i64 0, .int .i64 0, .int .i64 0, .int .i64 0, .int .i64 0, .int .i64 0, .slice none 0 0, .string ⟨#[]⟩] 32 (0, 0))) := Lib.hid ((hb4.block _ z3).trans R3.out)
  clear cr fr
  have cr := fun o => cellB R4.out o
  have fr := fun o => frozenB R4.out o
  clear hb4
  obtain ⟨bb, o, rfl, hbn, hcell⟩ := H4.out hlp
  obtain ⟨uy, hcy, huy⟩ := hcell 0 y HL0.out
  have p0 : w4.cell? ⟨bb, o, none⟩ = some (.int .i64 y.src) := by have := (b4.cell (p := ⟨bb, o + 0 * 12 + 0, none⟩) hbn).trans (hcy 0 _ rfl); simpa using this
  have p5 : w4.cell? ⟨bb, o + 5, none⟩ = some (.int .i64 y.dk) := by have := (b4.cell (p := ⟨bb, o + 0 * 12 + 5, none⟩) hbn).trans (hcy 5 _ rfl); simpa using this
  have p6 : w4.cell? ⟨bb, o + 6, none⟩ = some (.int .i64 y.dn) := by have := (b4.cell (p := ⟨bb, o + 0 * 12 + 6, none⟩) hbn).trans (hcy 6 _ rfl); simpa using this
  have p8 : w4.cell? ⟨bb, o + 8, none⟩ = some (.int .i64 y.prio) := by have := (b4.cell (p := ⟨bb, o + 0 * 12 + 8, none⟩) hbn).trans (hcy 8 _ rfl); simpa using this
  have zbb : bb < w4.heap.size := by have := b4.size; omega
  clear hcell hcy huy
  go_wp2
  refine wp_region_plan (fun V => Below (w4).heap.size (w4) V) [0, 0, 0, 0, 1, 0, 0, 0, 0, 0, 0, 1, 0, 0, 0, 0, 0, 0, 1, 0, 0, 2, 3] [0, 1, 2, 3, 4, 5, 6, 7, 8, 9, 10, 11, 12, 13, 14, 15, 16, 17, 18, 19, 20, 21, 22] (by kernel_rfl) (by kernel_rfl) ?_ ?_
  case refine_1 => exact belowA
  (iterate 21 (first | (refine plan_held rfl (by decide) (by rfl) (fun w1 hS => by (try (obtain ⟨_, _⟩ := bcell (hS rfl))); go_simp; rfl) ?_; simp only [Act.put, List.setIfInBounds_toArray, List.set_cons_zero, List.set_cons_succ]) | (refine plan_skip rfl (by decide) (by rfl) ?_; simp only [Act.put, List.setIfInBounds_toArray, List.set_cons_zero, List.set_cons_succ])))
  (refine plan_keep rfl rfl (by rfl) (fun K hK => ?_); go_simp)
  (refine hK _ _ (by exact belowA) ?_; clear hK K; (try simp only [Act.put, List.setIfInBounds_toArray, List.set_cons_zero, List.set_cons_succ]))
  (refine plan_late rfl rfl (by rfl) (fun K hK => ?_); go_simp)
  (refine hK _ _ ?_; clear hK K; (try simp only [Act.put, List.setIfInBounds_toArray, List.set_cons_zero, List.set_cons_succ]))
  refine plan_done ?_
  go_wp2
  go_loopw [64] (fun i wr => ∃ k : Nat, k ≤ l.length ∧ i = .int .i64 k ∧ Hid (wr.heap[w4.heap.size]? = some (.cells #[.int .i64 y.src, .int .i64 C, .int .i64 seq, .int .i64 0, .int .i64 0, .int .i64 y.dk, .int .i64 y.dn, .int .i64 (E - C), .int .i64 y.prio, .int .i64 (joinF (l.take k)), .slice none 0 0, .string (B P)] 32 (0, 0))) ∧ Hid (wr.heap[w.heap.size]? = some (.cells #[.int .i64 0, .int .i64 0, .int .i64 0, .int .i64 0, .int .i64 0, .int .i64 0, .int .i64 0, .int .i64 0, .int .i64 0, .int .i64 0, .slice none 0 0, .string ⟨#[]⟩] 32 (0, 0))) ∧ Below w.heap.size w wr) (fun i _ => l.length - (intOf i).toNat)
  case atStart => exact ⟨0, Nat.zero_le _, rfl, Lib.hid (by rw [show joinF (l.take 0) = 64 from by simp [joinF]]; exact heap_new), Lib.hid ((Below.heap_alloc _ _ _ (by simpa using z4)).trans R4.out), belowA⟩
  case round =>
    obtain ⟨k, hk, rfl, HB, HZ, hB⟩ := hrel
    have zB : w4.heap.size < wr.heap.size := by
      rcases Nat.lt_or_ge w4.heap.size wr.heap.size with z | z
      · exact z
      · have := HB.out; rw [Array.getElem?_eq_none z] at this; cases this
    have zR : w.heap.size < wr.heap.size := by omega
    clear cr fr
    have cr := fun o => cellB HZ.out o
    have fr := fun o => frozenB HZ.out o
    have cb := fun o => cellB HB.out o
    have fb := fun o => frozenB HB.out o
    by_cases hlt : k < l.length
    · skip
      obtain ⟨b2, o2, e2, hbn2, hcell⟩ := H4.out (by omega)
      obtain ⟨rfl, rfl⟩ : bb = b2 ∧ o = o2 := by injection e2 with e2; injection e2 with e2 e3 _; exact ⟨e2, e3⟩
      clear e2
      obtain ⟨x, hx⟩ : ∃ x, l[k]? = some x := ⟨_, List.getElem?_eq_getElem hlt⟩
      obtain ⟨ux, hc, hub⟩ := hcell k x hx
      have q0 : wr.cell? ⟨bb, o + k * 12, none⟩ = some (.int .i64 x.src) := (hB.cell (p := ⟨bb, o + k * 12 + 0, none⟩) hbn2).trans (hc 0 _ rfl)
      have q1 : wr.cell? ⟨bb, o + k * 12 + 1, none⟩ = some (.int .i64 x.crt) := (hB.cell (p := ⟨bb, o + k * 12 + 1, none⟩) hbn2).trans (hc 1 _ rfl)
      have q2 : wr.cell? ⟨bb, o + k * 12 + 2, none⟩ = some (.int .i64 x.seq) := (hB.cell (p := ⟨bb, o + k * 12 + 2, none⟩) hbn2).trans (hc 2 _ rfl)
      have q3 : wr.cell? ⟨bb, o + k * 12 + 3, none⟩ = some (.int .i64 x.off) := (hB.cell (p := ⟨bb, o + k * 12 + 3, none⟩) hbn2).trans (hc 3 _ rfl)
      have q4 : wr.cell? ⟨bb, o + k * 12 + 4, none⟩ = some (.int .i64 x.tot) := (hB.cell (p := ⟨bb, o + k * 12 + 4, none⟩) hbn2).trans (hc 4 _ rfl)
      have q5 : wr.cell? ⟨bb, o + k * 12 + 5, none⟩ = some (.int .i64 x.dk) := (hB.cell (p := ⟨bb, o + k * 12 + 5, none⟩) hbn2).trans (hc 5 _ rfl)
      have q6 : wr.cell? ⟨bb, o + k * 12 + 6, none⟩ = some (.int .i64 x.dn) := (hB.cell (p := ⟨bb, o + k * 12 + 6, none⟩) hbn2).trans (hc 6 _ rfl)
      have q7 : wr.cell? ⟨bb, o + k * 12 + 7, none⟩ = some (.int .i64 x.life) := (hB.cell (p := ⟨bb, o + k * 12 + 7, none⟩) hbn2).trans (hc 7 _ rfl)
      have q8 : wr.cell? ⟨bb, o + k * 12 + 8, none⟩ = some (.int .i64 x.prio) := (hB.cell (p := ⟨bb, o + k * 12 + 8, none⟩) hbn2).trans (hc 8 _ rfl)
      have q9 : wr.cell? ⟨bb, o + k * 12 + 9, none⟩ = some (.int .i64 x.flags) := (hB.cell (p := ⟨bb, o + k * 12 + 9, none⟩) hbn2).trans (hc 9 _ rfl)
      have q10 : wr.cell? ⟨bb, o + k * 12 + 10, none⟩ = some (ux) := (hB.cell (p := ⟨bb, o + k * 12 + 10, none⟩) hbn2).trans (hc 10 _ rfl)
      have q11 : wr.cell? ⟨bb, o + k * 12 + 11, none⟩ = some (.string (B x.payload)) := (hB.cell (p := ⟨bb, o + k * 12 + 11, none⟩) hbn2).trans (hc 11 _ rfl)
      have HUB := Lib.hid (hub.below hB (Nat.le_refl _) hB.size)
      obtain ⟨xa, xc, rfl, _⟩ := id hub
      have k0 : (0 : Int) ≤ (k : Int) := by omega
      have k1 : (k : Int) < (l.length : Int) := by omega
      have HX := Lib.hid hx
      have hsz := hB.size
      clear hc hub hx hcell
      have hv := HALL.out x (List.mem_of_getElem? HX.out)
      obtain ⟨f1, f2⟩ := chk_flags hv
      have hst := joinF_step HX.out f1 f2
      obtain ⟨FL, hFL⟩ : ∃ q, joinF (l.take k) = q := ⟨_, rfl⟩
      rw [hFL] at hst
      have HST := Lib.hid hst
      rw [hFL] at HB cb
      clear hv hst hFL
      go_wp2
      go_roundw
      case rel => exact ⟨k + 1, by omega, by go_num, Lib.hid ((Below.heap_alloc _ _ _ (by simpa using zB)).trans (by rw [← HST.out]; simpa using setB HB.out 9 (.int .i64 (bits .or .i64 FL (bits .and .i64 x.flags 1))))), Lib.hid ((Below.heap_alloc _ _ _ (by simpa using zR)).trans ((heap_setCell_other _ _ _ _ (by simp; omega)).trans HZ.out)), belowA⟩
      case measure => simp [intOf]; omega
    · obtain rfl : k = l.length := by omega
      have HFj : Hid (joinF (l.take l.length) = joinF l) := Lib.hid (by rw [List.take_length])
      rw [HFj.out] at HB cb
      obtain ⟨FL, hFL⟩ : ∃ q, joinF l = q := ⟨_, rfl⟩
      rw [hFL] at HB cb HS
      clear hFL
      go_wp2
      refine bodyPost_ret (v := .tuple #[.agg #[.int .i64 y.src, .int .i64 C, .int .i64 seq, .int .i64 0, .int .i64 0, .int .i64 y.dk, .int .i64 y.dn, .int .i64 (E - C), .int .i64 y.prio, .int .i64 FL, .slice none 0 0, .string (B P)], .int .i64 0]) (by simp [results, Tryz.results6, go_sem, World.cell?_setCell_same', cr, cb, zR]) rfl ?_
      unfold JoinPost
      rw [← HS.out]
      exact ⟨rfl, belowA⟩
end Go.Proofs.YtmknchdciblfjaaGreat
