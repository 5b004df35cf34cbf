/- Chapter 18: equal lists of intervals, equal partial bundles; great ones. -/
import Derived.BigQuiet
import Derived.BigRegion
import Derived.Test.YtpnfkmlgelcbgaaUa
import Derived.Test.YtpnfkmlgelcbgaaJn
set_option linter.unusedVariables false
set_option linter.unusedSimpArgs false
namespace Go.Proofs.Ytpnfkmlgelcbgaa
open Go Go.RowKit Iv
attribute [local go_sem] Oper.semAt_some
attribute [local go_sem] B_getElem B_size B_app B_extract B_get B_toList
attribute [local go_sem ↓] neSpI
set_option maxRecDepth 100000 in
set_option maxHeartbeats 4000000 in
theorem eqSp_any (l : List Sp) (u v : Value) (w : World) (h : RSps w w.heap.size u l) (k : RSps w w.heap.size v l) :
    Calls Try.prog 24 #[u, v] w (Says w) := by
  obtain ⟨a, c, rfl, h1, h2, h3, h4⟩ := h
  obtain ⟨a', c', rfl, k1, k2, k3, k4⟩ := k
  unfold maxLen at h2 k2
  have hlen : l.length ≤ 9223372036854775807 := by omega
  have H4 := Lib.hid h4
  have K4 := Lib.hid k4
  clear h3 h4 k3 k4
  go_enter Try.func24, Try.ntmps24
  go_wp2
  go_loopw [13] (fun i wr => ∃ k : Nat, k ≤ l.length ∧ i = .int .i64 k ∧ Below w.heap.size w wr) (fun i _ => l.length - (intOf i).toNat)
  case atStart => exact ⟨0, Nat.zero_le _, rfl, Below.refl _ _⟩
  case round =>
    obtain ⟨k, hk, rfl, hB⟩ := hrel
    by_cases hlt : k < l.length
    · obtain ⟨b, o, rfl, hbn, hcell⟩ := H4.out (by omega)
      obtain ⟨b', o', rfl, hbn', hcell'⟩ := K4.out (by omega)
      obtain ⟨x, hx⟩ : ∃ x, l[k]? = some x := ⟨_, List.getElem?_eq_getElem hlt⟩
      have c1 := (hB.cell (p := ⟨b, o + k * 2, none⟩) hbn).trans (sp0 hcell hx)
      have c2 := (hB.cell (p := ⟨b, o + k * 2 + 1, none⟩) hbn).trans (sp1 hcell hx)
      have d1 := (hB.cell (p := ⟨b', o' + k * 2, none⟩) hbn').trans (sp0 hcell' hx)
      have d2 := (hB.cell (p := ⟨b', o' + k * 2 + 1, none⟩) hbn').trans (sp1 hcell' hx)
      have k0 : (0 : Int) ≤ (k : Int) := by omega
      have k1' : (k : Int) < (l.length : Int) := by omega
      clear hcell hcell' hx
      go_wp2
      go_quiet (fail)
      go_wp2
      refine ⟨⟨k + 1, by omega, by go_num, belowA⟩, by simp [intOf]; omega⟩
    · obtain rfl : k = l.length := by omega
      go_wp2
      go_ret
      exact ⟨rfl, belowA⟩
set_option maxRecDepth 100000 in
set_option maxHeartbeats 4000000 in
theorem psame_any (p : Par) (ub uk vb vk : Value) (w : World) (h : RBlks w w.heap.size ub p.head.blocks) (k : RSps w w.heap.size uk p.known) (h' : RBlks w w.heap.size vb p.head.blocks) (k' : RSps w w.heap.size vk p.known) (hd : p.data.length ≤ maxLen) :
    Calls Try.prog 21 #[.agg (parC p ub uk).toArray, .agg (parC p vb vk).toArray] w (Says w) := by
  obtain ⟨b, kn, dt⟩ := p
  simp only at h k h' k' hd
  unfold maxLen at hd
  obtain ⟨a, c, rfl, _⟩ := id h
  obtain ⟨ka, kc, rfl, _⟩ := id k
  obtain ⟨a2, c2, rfl, _⟩ := id h'
  obtain ⟨ka2, kc2, rfl, _⟩ := id k'
  have HR := Lib.hid h
  have HK := Lib.hid k
  have HR2 := Lib.hid h'
  have HK2 := Lib.hid k'
  clear h k h' k'
  go_enter Try.func21, Try.ntmps21
  simp only [parC, bunC, List.cons_append, List.nil_append]
  go_wp2_with fail
  refine (bsame_any b _ _ _ (HR.out.below (C := w.heap.size) (by exact belowA) (Nat.le_refl _) (by first | omega | (simp <;> omega))) (HR2.out.below (C := w.heap.size) (by exact belowA) (Nat.le_refl _) (by first | omega | (simp <;> omega)))).mono ?_
  rintro e w1 ⟨rfl, hb⟩
  have b1 : Below w.heap.size w w1 := btrans0 (by exact belowA) hb
  have z1 : w.heap.size + 1 < w1.heap.size := by have := hb.size; simp at this; omega
  have P1 : Hid (w1.heap[w.heap.size]? = some (.cells #[.int .i64 b.src, .int .i64 b.crt, .int .i64 b.seq, .int .i64 b.off, .int .i64 b.tot, .int .i64 b.dk, .int .i64 b.dn, .int .i64 b.life, .int .i64 b.prio, .int .i64 b.flags, .slice a b.blocks.length c, .string (B b.payload), .slice ka kn.length kc, .string (B dt)] 31 (0, 0))) := Lib.hid ((hb.block _ (by simp; omega)).trans ((Below.heap_alloc _ _ _ (by simp)).trans heap_new))
  have Q1 : Hid (w1.heap[w.heap.size + 1]? = some (.cells #[.int .i64 b.src, .int .i64 b.crt, .int .i64 b.seq, .int .i64 b.off, .int .i64 b.tot, .int .i64 b.dk, .int .i64 b.dn, .int .i64 b.life, .int .i64 b.prio, .int .i64 b.flags, .slice a2 b.blocks.length c2, .string (B b.payload), .slice ka2 kn.length kc2, .string (B dt)] 31 (0, 0))) := Lib.hid ((hb.block _ (by first | omega | (simp <;> omega))).trans (heap_new' (by first | rfl | simp)))
  have cp := fun o => cellB P1.out o
  have cq := fun o => cellB Q1.out o
  clear hb
  go_wp2_with fail
  refine (rsameSp_any kn _ _ _ (HK.out.below (C := w.heap.size) (by exact belowA) (Nat.le_refl _) (by first | omega | (simp <;> omega))) (HK2.out.below (C := w.heap.size) (by exact belowA) (Nat.le_refl _) (by first | omega | (simp <;> omega)))).mono ?_
  rintro e w2 ⟨rfl, hb⟩
  have b2 : Below w.heap.size w w2 := btrans0 b1 hb
  have P2 := Lib.hid ((hb.block _ (by omega)).trans P1.out)
  have Q2 := Lib.hid ((hb.block _ (by omega)).trans Q1.out)
  clear hb cp cq
  have cp := fun o => cellB P2.out o
  have cq := fun o => cellB Q2.out o
  go_wp2
  go_ret
  exact ⟨by simp, belowA⟩
set_option maxRecDepth 100000 in
set_option maxHeartbeats 4000000 in
theorem pgreat_any (p : Par) (ub uk : Value) (w : World) (h : RBlks w w.heap.size ub p.head.blocks) (k : RSps w w.heap.size uk p.known) (hf : Fits p.head) (hd : p.data.length ≤ maxLen) :
    Calls Try.prog 10 #[.agg (parC p ub uk).toArray] w (AnyBool w) := by
  obtain ⟨b, kn, dt⟩ := p
  simp only at h k hf hd
  unfold maxLen at hd
  obtain ⟨a, c, rfl, _⟩ := id h
  obtain ⟨ka, kc, rfl, kh1, kh2, _⟩ := id k
  unfold maxLen at kh2
  have HR := Lib.hid h
  have HF := Lib.hid hf
  clear h k hf
  go_enter Try.func10, Try.ntmps10
  simp only [parC, bunC, List.cons_append, List.nil_append]
  go_wp2_with fail
  refine (bgreat_any b _ _ (HR.out.below (C := w.heap.size) (by exact belowA) (Nat.le_refl _) (by first | omega | (simp <;> omega))) HF.out).mono ?_
  rintro e w1 ⟨g, rfl, hb⟩
  have b1 : Below w.heap.size w w1 := btrans0 (by exact belowA) hb
  have z1 : w.heap.size < w1.heap.size := by have := hb.size; simp at this; omega
  have P1 : Hid (w1.heap[w.heap.size]? = some (.cells #[.int .i64 b.src, .int .i64 b.crt, .int .i64 b.seq, .int .i64 b.off, .int .i64 b.tot, .int .i64 b.dk, .int .i64 b.dn, .int .i64 b.life, .int .i64 b.prio, .int .i64 b.flags, .slice a b.blocks.length c, .string (B b.payload), .slice ka kn.length kc, .string (B dt)] 31 (0, 0))) := Lib.hid ((hb.block _ (by simp)).trans heap_new)
  have cp := fun o => cellB P1.out o
  clear hb
  cases g <;> go_wp2 <;> (go_ret; exact ⟨_, rfl, belowA⟩)
end Go.Proofs.Ytpnfkmlgelcbgaa
