/- Chapter 18: lists of blocks compared: slices.Equal, the reference's Same. -/
import Derived.BigQuiet
import Derived.BigRegion
import Derived.Deep.DeepCutAuto
import Derived.Deep.CutBlock
import Derived.Test.YtpnfkmlgelcbgaaSp
set_option linter.unusedVariables false
set_option linter.unusedSimpArgs false
namespace Go.Proofs.Ytpnfkmlgelcbgaa
open Go Go.RowKit Iv
attribute [local go_sem] Oper.semAt_some
attribute [local go_sem] B_getElem B_size B_app B_extract B_get B_toList
theorem neBlk (a f a' f' : Int) (d d' : List UInt8) (w : World) : Sem.run Try.prog (Go.binOp .neq 81 (.agg #[.int .i64 a, .int .i64 f, .string (B d)]) (.agg #[.int .i64 a', .int .i64 f', .string (B d')])) w = .ok (.bool (!eqKK ⟨a, f, d⟩ ⟨a', f', d'⟩)) w := by
  go_simp
  unfold eqKK
  by_cases h1 : a = a' <;> by_cases h2 : f = f' <;> by_cases h3 : d = d' <;> simp [h1, h2, h3, B]
attribute [local go_sem ↓] neBlk
theorem eqBs_len : ∀ {l m : List Blk}, l.length ≠ m.length → eqBs l m = false
  | [], [], h => absurd rfl h
  | x :: r, y :: s, h => by
    unfold eqBs
    rw [eqBs_len (l := r) (m := s) (fun e => h (by simp [e]))]
    simp
  | [], y :: s, _ => rfl
  | x :: r, [], _ => rfl
theorem eqBs_at {l m : List Blk} {k : Nat} {x y : Blk} (hx : l[k]? = some x) (hy : m[k]? = some y) : eqBs (l.drop k) (m.drop k) = (eqKK x y && eqBs (l.drop (k + 1)) (m.drop (k + 1))) := by
  have h1 : k < l.length := (List.getElem?_eq_some_iff.1 hx).1
  have h2 : k < m.length := (List.getElem?_eq_some_iff.1 hy).1
  rw [List.drop_eq_getElem_cons h1, List.drop_eq_getElem_cons h2]
  rw [List.getElem?_eq_getElem h1] at hx
  rw [List.getElem?_eq_getElem h2] at hy
  rw [Option.some.inj hx, Option.some.inj hy]
  rfl
set_option maxRecDepth 100000 in
set_option maxHeartbeats 4000000 in
theorem eqB_any (l m : List Blk) (u v : Value) (w : World) (h : RBlks w w.heap.size u l) (k : RBlks w w.heap.size v m) :
    Calls Try.prog 49 #[u, v] w fun e w' => e = .returned (.bool (eqBs l m)) ∧ Below w.heap.size w w' := by
  obtain ⟨a, c, rfl, h1, h2, h3, h4⟩ := h
  obtain ⟨a', c', rfl, k1, k2, k3, k4⟩ := k
  unfold maxLen at h2 k2
  have hlen : l.length ≤ 9223372036854775807 := by omega
  have hlen2 : m.length ≤ 9223372036854775807 := by omega
  have H4 := Lib.hid h4
  have K4 := Lib.hid k4
  clear h3 h4 k3 k4
  by_cases hl : l.length = m.length
  case neg =>
    rw [eqBs_len hl]
    have dl : ((l.length : Int) != (m.length : Int)) = true := by rw [bne_iff_ne]; omega
    go_enter Try.func49, Try.ntmps49
    go_wp2
    go_ret
    exact ⟨rfl, belowA⟩
  have dl : ((l.length : Int) != (m.length : Int)) = false := by rw [bne_eq_false_iff_eq]; omega
  have HLN := Lib.hid hl
  obtain ⟨E, hE⟩ : ∃ q, eqBs l m = q := ⟨_, rfl⟩
  have HE := Lib.hid hE
  rw [hE]
  clear hE hl
  go_enter Try.func49, Try.ntmps49
  go_wp2
  go_loopw [13] (fun i wr => ∃ k : Nat, k ≤ l.length ∧ i = .int .i64 k ∧ Hid (eqBs (l.drop k) (m.drop k) = E) ∧ Below w.heap.size w wr) (fun i _ => l.length - (intOf i).toNat)
  case atStart => exact ⟨0, Nat.zero_le _, rfl, HE, Below.refl _ _⟩
  case round =>
    obtain ⟨k, hk, rfl, HQ, hB⟩ := hrel
    by_cases hlt : k < l.length
    · have hkm : k < m.length := by have := HLN.out; omega
      obtain ⟨b, o, rfl, hbn, hcell⟩ := H4.out (by omega)
      obtain ⟨b', o', rfl, hbn', hcell'⟩ := K4.out (by omega)
      obtain ⟨x, hx⟩ : ∃ x, l[k]? = some x := ⟨_, List.getElem?_eq_getElem hlt⟩
      obtain ⟨y, hy⟩ : ∃ x, m[k]? = some x := ⟨_, List.getElem?_eq_getElem hkm⟩
      obtain ⟨c1, c2, c3⟩ := (hcell k x hx).keep (fun o => hB.cell (p := ⟨b, o, none⟩) hbn)
      obtain ⟨d1, d2, d3⟩ := (hcell' k y hy).keep (fun o => hB.cell (p := ⟨b', o, none⟩) hbn')
      have k0 : (0 : Int) ≤ (k : Int) := by omega
      have k1' : (k : Int) < (l.length : Int) := by omega
      have k2' : (k : Int) < (m.length : Int) := by omega
      have HAT := Lib.hid ((eqBs_at hx hy).symm.trans HQ.out)
      obtain ⟨D, hD⟩ : ∃ q, eqKK x y = q := ⟨_, rfl⟩
      have hD2 : eqKK ⟨x.kind, x.flags, x.data⟩ ⟨y.kind, y.flags, y.data⟩ = D := hD
      have HD := Lib.hid hD
      clear hcell hcell' hx hy hD
      cases D with
      | true =>
        have HQ2 : Hid (eqBs (l.drop (k + 1)) (m.drop (k + 1)) = E) := Lib.hid (by have := HAT.out; rw [HD.out] at this; simpa using this)
        go_wp2
        go_quiet (fail)
        go_wp2
        refine ⟨⟨k + 1, by omega, by go_num, HQ2, belowA⟩, by simp [intOf]; omega⟩
      | false =>
        have HQ2 : Hid (E = false) := Lib.hid (by have := HAT.out; rw [HD.out] at this; simpa using this.symm)
        go_wp2
        go_quiet (fail)
        go_wp2
        go_ret
        rw [HQ2.out]
        exact ⟨rfl, belowA⟩
    · obtain rfl : k = l.length := by omega
      have HQ2 : Hid (E = true) := Lib.hid (by
        have := HQ.out
        rw [List.drop_length, HLN.out, List.drop_length] at this
        exact this.symm)
      go_wp2
      go_ret
      rw [HQ2.out]
      exact ⟨rfl, belowA⟩
set_option maxRecDepth 100000 in
set_option maxHeartbeats 4000000 in
theorem reqB_any (l m : List Blk) (u v : Value) (w : World) (h : RBlks w w.heap.size u l) (k : RBlks w w.heap.size v m) :
    Calls Try.prog 82 #[u, v] w fun e w' => e = .returned (.bool (eqBs l m)) ∧ Below w.heap.size w w' := by
  obtain ⟨a, c, rfl, h1, h2, h3, h4⟩ := h
  obtain ⟨a', c', rfl, k1, k2, k3, k4⟩ := k
  unfold maxLen at h2 k2
  have hlen : l.length ≤ 9223372036854775807 := by omega
  have hlen2 : m.length ≤ 9223372036854775807 := by omega
  have H4 := Lib.hid h4
  have K4 := Lib.hid k4
  clear h3 h4 k3 k4
  by_cases hl : l.length = m.length
  case neg =>
    rw [eqBs_len hl]
    have dl : ((l.length : Int) != (m.length : Int)) = true := by rw [bne_iff_ne]; omega
    go_enter Try.func82, Try.ntmps82
    go_wp2
    go_ret
    exact ⟨rfl, belowA⟩
  have dl : ((l.length : Int) != (m.length : Int)) = false := by rw [bne_eq_false_iff_eq]; omega
  have HLN := Lib.hid hl
  obtain ⟨E, hE⟩ : ∃ q, eqBs l m = q := ⟨_, rfl⟩
  have HE := Lib.hid hE
  rw [hE]
  clear hE hl
  go_enter Try.func82, Try.ntmps82
  go_wp2
  go_loopw [5] (fun i wr => ∃ k : Nat, k ≤ l.length ∧ i = .int .i64 k ∧ Hid (eqBs (l.drop k) (m.drop k) = E) ∧ Below w.heap.size w wr) (fun i _ => l.length - (intOf i).toNat)
  case atStart => exact ⟨0, Nat.zero_le _, rfl, HE, Below.refl _ _⟩
  case round =>
    obtain ⟨k, hk, rfl, HQ, hB⟩ := hrel
    by_cases hlt : k < l.length
    · have hkm : k < m.length := by have := HLN.out; omega
      obtain ⟨b, o, rfl, hbn, hcell⟩ := H4.out (by omega)
      obtain ⟨b', o', rfl, hbn', hcell'⟩ := K4.out (by omega)
      obtain ⟨x, hx⟩ : ∃ x, l[k]? = some x := ⟨_, List.getElem?_eq_getElem hlt⟩
      obtain ⟨y, hy⟩ : ∃ x, m[k]? = some x := ⟨_, List.getElem?_eq_getElem hkm⟩
      obtain ⟨c1, c2, c3⟩ := (hcell k x hx).keep (fun o => hB.cell (p := ⟨b, o, none⟩) hbn)
      obtain ⟨d1, d2, d3⟩ := (hcell' k y hy).keep (fun o => hB.cell (p := ⟨b', o, none⟩) hbn')
      have k0 : (0 : Int) ≤ (k : Int) := by omega
      have k1' : (k : Int) < (l.length : Int) := by omega
      have k2' : (k : Int) < (m.length : Int) := by omega
      have HAT := Lib.hid ((eqBs_at hx hy).symm.trans HQ.out)
      obtain ⟨D, hD⟩ : ∃ q, eqKK x y = q := ⟨_, rfl⟩
      have hD2 : eqKK ⟨x.kind, x.flags, x.data⟩ ⟨y.kind, y.flags, y.data⟩ = D := hD
      have HD := Lib.hid hD
      clear hcell hcell' hx hy hD
      cases D with
      | true =>
        have HQ2 : Hid (eqBs (l.drop (k + 1)) (m.drop (k + 1)) = E) := Lib.hid (by have := HAT.out; rw [HD.out] at this; simpa using this)
        go_wp2
        go_quiet (fail)
        go_wp2
        refine ⟨⟨k + 1, by omega, by go_num, HQ2, belowA⟩, by simp [intOf]; omega⟩
      | false =>
        have HQ2 : Hid (E = false) := Lib.hid (by have := HAT.out; rw [HD.out] at this; simpa using this.symm)
        go_wp2
        go_quiet (fail)
        go_wp2
        go_ret
        rw [HQ2.out]
        exact ⟨rfl, belowA⟩
    · obtain rfl : k = l.length := by omega
      have HQ2 : Hid (E = true) := Lib.hid (by
        have := HQ.out
        rw [List.drop_length, HLN.out, List.drop_length] at this
        exact this.symm)
      go_wp2
      go_ret
      rw [HQ2.out]
      exact ⟨rfl, belowA⟩
end Go.Proofs.Ytpnfkmlgelcbgaa
