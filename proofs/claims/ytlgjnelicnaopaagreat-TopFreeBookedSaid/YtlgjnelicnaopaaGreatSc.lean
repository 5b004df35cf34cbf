/- Joined by port.py: XSc -/
import Derived.BigQuiet
import Derived.BigRegion
import Derived.Deep.DeepCutAuto
import Derived.Deep.CutBlock
import Derived.Test.YtlgjnelicnaopaaGreatSb
set_option linter.unusedVariables false
set_option linter.unusedSimpArgs false
/-! XSc -/
namespace Go.Proofs.YtlgjnelicnaopaaGreat
open Go Go.RowKit Iv
attribute [local go_sem] Oper.semAt_some
attribute [local go_sem] B_getElem B_size B_app B_extract B_get B_toList
def inX (x : Sp) (t : Int) : Bool := decide (x.1 ≤ t) && decide (t < x.2)
def totS (l : List Sp) : Int := (l.map fun x => x.2 - x.1).sum
theorem totS_step {l : List Sp} {k : Nat} {x : Sp} (h : l[k]? = some x) : totS (l.take (k + 1)) = totS (l.take k) + (x.2 - x.1) := by
  unfold totS
  rw [List.take_add_one, h]
  simp
theorem totS_le : ∀ {l : List Sp} {b : Int}, NF b l → (∀ x ∈ l, x.2 ≤ 1152921504606846976) → ∀ k, 0 ≤ totS (l.take k) ∧ (0 < l.length → totS (l.take k) ≤ 1152921504606846976 - b)
  | [], b, _, _, k => by simp [totS]
  | x :: r, b, h, hm, 0 => by have := h.1; have := h.2.1; have := hm x (by simp); simp [totS]; omega
  | x :: r, b, h, hm, k + 1 => by
    have ih := totS_le h.2.2 (fun y hy => hm y (by simp [hy])) k
    have := h.1; have := h.2.1; have := hm x (by simp)
    have e : totS ((x :: r).take (k + 1)) = (x.2 - x.1) + totS (r.take k) := by simp [totS]
    rw [e]
    refine ⟨by omega, fun _ => ?_⟩
    cases r with
    | nil => simp [totS]; omega
    | cons y s => have := ih.2 (by simp); omega
def totA (l : List Sp) : Int := if chkSp l ≠ 0 then 0 else totS l
theorem infoSpan : (Tryz.prog.info? 46).map (fun i => (i.zero, i.size, i.bytes)) = some (some (.agg #[.int .i64 0, .int .i64 0]), 2, 16) := by kernel_rfl
set_option maxRecDepth 100000 in
set_option maxHeartbeats 4000000 in
theorem tot_any (l : List Sp) (v : Value) (w : World) (h : RSps w w.heap.size v l) (hc : chkSp l = 0) :
    Calls Tryz.prog 14 #[v] w fun e w' => e = .returned (.int .i64 (totS l)) ∧ Below w.heap.size w w' := by
  have HR := Lib.hid h
  have HC := Lib.hid hc
  obtain ⟨_, c2, c3⟩ := chkSp_zero hc
  have HL := Lib.hid (totS_le c2 (fun x hx => (c3 x hx).2))
  have HM := Lib.hid c3
  have HNF := Lib.hid c2
  clear hc c2 c3
  obtain ⟨a, c, rfl, h1, h2, h3, h4⟩ := h
  unfold maxLen at h2
  have hlen : l.length ≤ 9223372036854775807 := by omega
  have H4 := Lib.hid h4
  clear h3 h4
  go_enter Tryz.func14, Tryz.ntmps14
  go_wp2_with fail
  refine (chkSp_any l _ _ HR.out).mono ?_
  rw [HC.out]
  rintro e w1 ⟨rfl, hb1⟩
  go_wp2
  go_loopw [11, 3] (fun i s wr => ∃ (k : Nat) (S : Int), k ≤ l.length ∧ i = .int .i64 k ∧ s = .int .i64 S ∧ Hid (S = totS (l.take k)) ∧ Below w.heap.size w wr) (fun i _ _ => l.length - (intOf i).toNat)
  case atStart => exact ⟨0, 0, Nat.zero_le _, rfl, rfl, Lib.hid (by simp [totS]), hb1⟩
  case round =>
    obtain ⟨k, S, hk, rfl, rfl, HS, hB⟩ := hrel
    by_cases hlt : k < l.length
    · skip
      obtain ⟨bb, o, rfl, hbn, hcell⟩ := H4.out (by omega)
      obtain ⟨x, hx⟩ : ∃ x, l[k]? = some x := ⟨_, List.getElem?_eq_getElem (by omega)⟩
      have q0 : wr.cell? ⟨bb, o + k * 2, none⟩ = some (.int .i64 x.1) := (hB.cell (p := ⟨bb, o + k * 2, none⟩) hbn).trans (sp0 hcell hx)
      have q1 : wr.cell? ⟨bb, o + k * 2 + 1, none⟩ = some (.int .i64 x.2) := (hB.cell (p := ⟨bb, o + k * 2 + 1, none⟩) hbn).trans (sp1 hcell hx)
      have k0 : (0 : Int) ≤ (k : Int) := by omega
      have k1 : (k : Int) < (l.length : Int) := by omega
      have HX := Lib.hid hx
      clear hx
      clear hcell
      have m1 := HM.out x (List.mem_of_getElem? HX.out)
      have m0 := (HNF.out.lo x (List.mem_of_getElem? HX.out)).2
      have m2 := HL.out k
      rw [← HS.out] at m2
      have m3 := HL.out (k + 1)
      rw [totS_step HX.out, ← HS.out] at m3
      have m4 := m2.2 (by omega)
      have m5 := m3.2 (by omega)
      have HST : Hid (S + (x.2 - x.1) = totS (l.take (k + 1))) := Lib.hid (by rw [totS_step HX.out, ← HS.out])
      obtain ⟨m21, _⟩ := m2
      obtain ⟨m31, _⟩ := m3
      have w1' : IntKind.i64.wrap (x.2 - x.1) = x.2 - x.1 := by rw [IntKind.wrap_i64]; omega
      have w2' : IntKind.i64.wrap (S + (x.2 - x.1)) = S + (x.2 - x.1) := by rw [IntKind.wrap_i64]; omega
      have HE : Hid (S + (x.2 - x.1) = S + (x.2 - x.1)) := Lib.hid rfl
      clear m1 m0 m4 m5 m21 m31
      go_wp2
      go_roundw
      case rel => exact ⟨k + 1, _, by omega, by go_num, rfl, Lib.hid (by rw [← HST.out, ← HE.out]), belowA⟩
      case measure => simp [intOf]; omega
    · obtain rfl : k = l.length := by omega
      have HN : Hid (S = totS l) := Lib.hid (by rw [HS.out, List.take_length])
      go_wp2
      go_ret
      rw [← HN.out]
      exact ⟨rfl, hB⟩
set_option maxRecDepth 100000 in
set_option maxHeartbeats 4000000 in
theorem rsameSp_any (l : List Sp) (u v : Value) (w : World) (h : RSps w w.heap.size u l) (k : RSps w w.heap.size v l) :
    Calls Tryz.prog 13 #[u, v] w fun e w' => e = .returned (.bool true) ∧ Below w.heap.size w w' := by
  obtain ⟨a', c', rfl, _, _, _, k4⟩ := k
  have K4 := Lib.hid k4
  clear k4
  obtain ⟨a, c, rfl, h1, h2, h3, h4⟩ := h
  unfold maxLen at h2
  have hlen : l.length ≤ 9223372036854775807 := by omega
  have H4 := Lib.hid h4
  clear h3 h4
  have hnn : ((l.length : Int) != (l.length : Int)) = false := by simp
  go_enter Tryz.func13, Tryz.ntmps13
  go_wp2
  go_loopw [5] (fun i wr => ∃ k : Nat, k ≤ l.length ∧ i = .int .i64 k ∧ Below w.heap.size w wr) (fun i _ => l.length - (intOf i).toNat)
  case atStart => exact ⟨0, Nat.zero_le _, rfl, Below.refl _ _⟩
  case round =>
    obtain ⟨k, hk, rfl, hB⟩ := hrel
    by_cases hlt : k < l.length
    · skip
      obtain ⟨bb, o, rfl, hbn, hcell⟩ := H4.out (by omega)
      obtain ⟨x, hx⟩ : ∃ x, l[k]? = some x := ⟨_, List.getElem?_eq_getElem (by omega)⟩
      have q0 : wr.cell? ⟨bb, o + k * 2, none⟩ = some (.int .i64 x.1) := (hB.cell (p := ⟨bb, o + k * 2, none⟩) hbn).trans (sp0 hcell hx)
      have q1 : wr.cell? ⟨bb, o + k * 2 + 1, none⟩ = some (.int .i64 x.2) := (hB.cell (p := ⟨bb, o + k * 2 + 1, none⟩) hbn).trans (sp1 hcell hx)
      have k0 : (0 : Int) ≤ (k : Int) := by omega
      have k1 : (k : Int) < (l.length : Int) := by omega
      have HX := Lib.hid hx
      clear hx
      obtain ⟨bb2, o2, rfl, hbn2, hcell2⟩ := K4.out (by omega)
      have p0 : wr.cell? ⟨bb2, o2 + k * 2, none⟩ = some (.int .i64 x.1) := (hB.cell (p := ⟨bb2, o2 + k * 2, none⟩) hbn2).trans (sp0 hcell2 HX.out)
      have p1 : wr.cell? ⟨bb2, o2 + k * 2 + 1, none⟩ = some (.int .i64 x.2) := (hB.cell (p := ⟨bb2, o2 + k * 2 + 1, none⟩) hbn2).trans (sp1 hcell2 HX.out)
      clear hcell hcell2
      go_upto_region 6 with fail
      go_quiet (fail)
      go_wp2
      go_roundw
      case rel => exact ⟨k + 1, by omega, by go_num, belowA⟩
      case measure => simp [intOf]; omega
    · obtain rfl : k = l.length := by omega
      go_wp2
      go_ret
      exact ⟨rfl, hB⟩
end Go.Proofs.YtlgjnelicnaopaaGreat
