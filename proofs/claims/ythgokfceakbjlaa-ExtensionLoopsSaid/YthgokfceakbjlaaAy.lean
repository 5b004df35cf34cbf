/- Layer 14, the reference: has (XEo's text on another function). -/
import Derived.Test.YthgokfceakbjlaaAx
set_option linter.unusedVariables false
set_option linter.unusedSimpArgs false
namespace Go.Proofs.Ythgokfceakbjlaa
open Go Go.RowKit
attribute [local go_sem] B_getElem B_size B_app B_extract B_get B_toList

set_option maxRecDepth 100000 in
set_option maxHeartbeats 1000000 in
theorem rhasI_any (l : List Int) (u : Value) (n : Int) (w : World) (h : RInts w w.heap.size u l) :
    Calls Try.prog 65 #[u, .int .i64 n] w fun e w' => e = .returned (.bool (l.contains n)) ∧ w' = w := by
  obtain ⟨a, c, rfl, h1, h2, h3, h4⟩ := h
  unfold maxLen at h2
  have hlen : l.length ≤ 9223372036854775807 := by omega
  have H4 := Lib.hid h4
  clear h3 h4
  go_enter Try.func65, Try.ntmps65
  go_wp2
  go_loopw [5] (fun i wr => ∃ k : Nat, k ≤ l.length ∧ i = .int .i64 k ∧ Hid (∀ x ∈ l.take k, n ≠ x) ∧ wr = w) (fun i _ => l.length - (intOf i).toNat)
  case atStart => exact ⟨0, Nat.zero_le _, rfl, Lib.hid (by simp), rfl⟩
  case round =>
    obtain ⟨k, hk, rfl, HF, rfl⟩ := hrel
    by_cases hlt : k < l.length
    · obtain ⟨bb, o, rfl, hbn, hcell⟩ := H4.out (by omega)
      obtain ⟨x, hx⟩ : ∃ x, l[k]? = some x := ⟨_, List.getElem?_eq_getElem hlt⟩
      have c1 := hcell k x hx
      have k0 : (0 : Int) ≤ (k : Int) := by omega
      have k1 : (k : Int) < (l.length : Int) := by omega
      have HX := Lib.hid hx
      clear hx hcell
      by_cases hq : x = n
      · have hq2 : (x == n) = true := beq_iff_eq.2 hq
        have HQ : Hid (l.contains n = true) := Lib.hid (by rw [List.contains_iff_mem, ← hq]; exact List.mem_of_getElem? HX.out)
        clear hq
        go_wp2
        go_ret
        exact ⟨by rw [HQ.out]; rfl, rfl⟩
      · have hq2 : (x == n) = false := beq_eq_false_iff_ne.2 hq
        have HQ := Lib.hid hq
        clear hq
        go_wp2
        go_roundw
        case rel =>
          refine ⟨k + 1, by omega, by go_num, Lib.hid ?_, trivial⟩
          intro y hy
          rw [List.take_add_one, HX.out] at hy
          rcases List.mem_append.1 hy with hy | hy
          · exact HF.out y hy
          · simp at hy; subst hy; exact fun e => HQ.out e.symm
        case measure => simp [intOf]; omega
    · obtain rfl : k = l.length := by omega
      have HQ : Hid (l.contains n = false) := Lib.hid (by
        have := HF.out
        rw [List.take_length] at this
        cases hc : l.contains n with
        | false => rfl
        | true => exact absurd rfl (this n (List.contains_iff_mem.1 hc)))
      go_wp2
      go_ret
      exact ⟨by rw [HQ.out]; rfl, rfl⟩

end Go.Proofs.Ythgokfceakbjlaa
