/-
  Proved: mailboatlaw18.ReassemblyAll returns true for every input, and leaves its arguments as they were. No condition.
-/
import Derived.Test.YtpnfkmlgelcbgaaRows
import Derived.Test.YtpnfkmlgelcbgaaUl
import Derived.Test.YtpnfkmlgelcbgaaJn
set_option linter.unusedVariables false
set_option linter.unusedSimpArgs false
namespace Go.Proofs.Ytpnfkmlgelcbgaa.reassemblyAll
open Go Go.ChangeShapes Go.WideShapes Go.ChangeAt Go.RowKit Go.Joins Go.Proofs.Ytpnfkmlgelcbgaa
attribute [local go_sem] B_getElem B_size B_app B_extract B_get B_toList

theorem own : ownKnob Try.prog.godebug = none := by kernel_rfl

attribute [local go_sem] Oper.semAt_some
set_option maxRecDepth 100000 in
set_option maxHeartbeats 16000000 in
theorem walk (l : List Bun) (v : Value) (w : World) (hr : RBuns w w.heap.size v l) (hf : ∀ b ∈ l, Fits b) :
    Calls Try.prog 4 #[v] w (Says w) := by
  obtain ⟨⟨VB, VE⟩, hV⟩ : ∃ q, allP l = q := ⟨_, rfl⟩
  have HV := Lib.hid hV
  have dE : (VE == VE) = true := by simp
  clear hV
  have HR0 := Lib.hid hr
  have HF := Lib.hid hf
  clear hr hf
  go_enter Try.func4, Try.ntmps4
  go_wp2_with fail
  refine (great18_any l v _ (HR0.out.below' (Below.refl _ _)) HF.out).mono ?_
  rintro e w1 ⟨gr, rfl, hgr, hb1⟩
  have B1 : Below w.heap.size w w1 := btrans0 (Below.refl _ _) hb1
  have y1 : w.heap.size ≤ w1.heap.size := by have := hb1.size; (try simp at this); omega
  have L0_1 : Below w.heap.size w w1 := btrans0 (Below.refl _ _) hb1
  have HGR := Lib.hid hgr
  clear hgr
  clear hb1
  cases gr with
  | true =>
    go_wp2_with fail
    refine (awake_any _).mono ?_
    rintro e w99 ⟨rfl, hb99⟩
    go_wp2
    go_ret
    exact ⟨rfl, belowA⟩
  | false =>
  go_wp2_with fail
  refine (all_any l v _ (HR0.out.below' (L0_1)) HF.out).mono ?_
  unfold AllPost
  rw [HV.out]
  rintro e w2 ⟨ux, rfl, hx, hb2⟩
  have B2 : Below w.heap.size w w2 := btrans0 B1 hb2
  have y2 : w1.heap.size ≤ w2.heap.size := by have := hb2.size; (try simp at this); omega
  have L0_2 : Below w.heap.size w w2 := btrans0 L0_1 hb2
  simp only at hx
  obtain ⟨ax, nx, rfl, -⟩ := id hx
  clear hb2
  have Hx2 := Lib.hid hx
  clear hx
  simp only [bunC]
  go_upto_region 4 with fail
  obtain ⟨w3, hw3⟩ : ∃ q, w2.alloc (.cells (bunC VB (.slice ax VB.blocks.length nx)).toArray 28 (0, 0)) = q := ⟨_, rfl⟩
  simp only [bunC, parC, zBun, zPar, spC, List.cons_append, List.nil_append] at hw3
  rw [hw3]
  have y3 : w2.heap.size < w3.heap.size := by rw [← hw3]; simp
  have B3 : Below w.heap.size w w3 := by rw [← hw3]; exact balloc0 B2
  have L0_3 : Below w.heap.size w w3 := by rw [← hw3]; exact balloc0 L0_2
  have L2_3 : Below w2.heap.size w2 w3 := by rw [← hw3]; exact balloc0 (Below.refl _ _)
  have Xx3 : Hid (w3.heap[w2.heap.size]? = some (.cells (bunC VB (.slice ax VB.blocks.length nx)).toArray 28 (0, 0))) := Lib.hid (by rw [← hw3]; exact heap_new)
  have zx3 : w2.heap.size < w3.heap.size := by omega
  clear hw3
  have cx := fun o => cellB Xx3.out o
  simp only [bunC, parC, zBun, zPar, spC, List.cons_append, List.nil_append] at cx
  go_wp2_with fail
  refine (rall_any l v _ (HR0.out.below' (L0_3)) HF.out).mono ?_
  unfold AllPost
  rw [HV.out]
  rintro e w4 ⟨uy, rfl, hy, hb4⟩
  have B4 : Below w.heap.size w w4 := btrans0 B3 hb4
  have y4 : w3.heap.size ≤ w4.heap.size := by have := hb4.size; (try simp at this); omega
  have L0_4 : Below w.heap.size w w4 := btrans0 L0_3 hb4
  have L2_4 : Below w2.heap.size w2 w4 := btrans0 L2_3 hb4
  have Xx4 : Hid (w4.heap[w2.heap.size]? = some (.cells (bunC VB (.slice ax VB.blocks.length nx)).toArray 28 (0, 0))) := Lib.hid ((hb4.block _ (by first | omega | (simp; omega))).trans (Xx3.out))
  have zx4 : w2.heap.size < w4.heap.size := by omega
  clear cx
  simp only at hy
  obtain ⟨ay, ny, rfl, -⟩ := id hy
  clear hb4
  have cx := fun o => cellB Xx4.out o
  simp only [bunC, parC, zBun, zPar, spC, List.cons_append, List.nil_append] at cx
  have Hy4 := Lib.hid hy
  clear hy
  simp only [bunC]
  go_upto_region 5 with fail
  obtain ⟨w5, hw5⟩ : ∃ q, w4.alloc (.cells (bunC VB (.slice ay VB.blocks.length ny)).toArray 28 (0, 0)) = q := ⟨_, rfl⟩
  simp only [bunC, parC, zBun, zPar, spC, List.cons_append, List.nil_append] at hw5
  rw [hw5]
  have y5 : w4.heap.size < w5.heap.size := by rw [← hw5]; simp
  have B5 : Below w.heap.size w w5 := by rw [← hw5]; exact balloc0 B4
  have L0_5 : Below w.heap.size w w5 := by rw [← hw5]; exact balloc0 L0_4
  have L2_5 : Below w2.heap.size w2 w5 := by rw [← hw5]; exact balloc0 L2_4
  have L4_5 : Below w4.heap.size w4 w5 := by rw [← hw5]; exact balloc0 (Below.refl _ _)
  have Xx5 : Hid (w5.heap[w2.heap.size]? = some (.cells (bunC VB (.slice ax VB.blocks.length nx)).toArray 28 (0, 0))) := Lib.hid (by rw [← hw5]; exact (Below.heap_alloc _ _ _ (by omega)).trans Xx4.out)
  have zx5 : w2.heap.size < w5.heap.size := by omega
  have Xy5 : Hid (w5.heap[w4.heap.size]? = some (.cells (bunC VB (.slice ay VB.blocks.length ny)).toArray 28 (0, 0))) := Lib.hid (by rw [← hw5]; exact heap_new)
  have zy5 : w4.heap.size < w5.heap.size := by omega
  clear cx
  clear hw5
  have cx := fun o => cellB Xx5.out o
  have cy := fun o => cellB Xy5.out o
  simp only [bunC, parC, zBun, zPar, spC, List.cons_append, List.nil_append] at cx cy
  go_wp2_with fail
  refine (bsame_any VB _ _ _ (Hx2.out.below' (L2_5)) (Hy4.out.below' (L4_5))).mono ?_
  rintro e w6 ⟨rfl, hb6⟩
  have B6 : Below w.heap.size w w6 := btrans0 B5 hb6
  have y6 : w5.heap.size ≤ w6.heap.size := by have := hb6.size; (try simp at this); omega
  have L0_6 : Below w.heap.size w w6 := btrans0 L0_5 hb6
  have L2_6 : Below w2.heap.size w2 w6 := btrans0 L2_5 hb6
  have L4_6 : Below w4.heap.size w4 w6 := btrans0 L4_5 hb6
  have Xx6 : Hid (w6.heap[w2.heap.size]? = some (.cells (bunC VB (.slice ax VB.blocks.length nx)).toArray 28 (0, 0))) := Lib.hid ((hb6.block _ (by first | omega | (simp; omega))).trans (Xx5.out))
  have zx6 : w2.heap.size < w6.heap.size := by omega
  have Xy6 : Hid (w6.heap[w4.heap.size]? = some (.cells (bunC VB (.slice ay VB.blocks.length ny)).toArray 28 (0, 0))) := Lib.hid ((hb6.block _ (by first | omega | (simp; omega))).trans (Xy5.out))
  have zy6 : w4.heap.size < w6.heap.size := by omega
  clear cx cy
  clear hb6
  have cx := fun o => cellB Xx6.out o
  have cy := fun o => cellB Xy6.out o
  simp only [bunC, parC, zBun, zPar, spC, List.cons_append, List.nil_append] at cx cy
  go_wp2_with fail
  refine (awake_any _).mono ?_
  rintro e w99 ⟨rfl, hb99⟩
  go_wp2
  go_ret
  exact ⟨rfl, belowA⟩

set_option maxRecDepth 100000 in
theorem lifted (os : Os) (started : os.Started) (H : Type) (enc : TypeId × Value → H) :
    ReturnsInHanded {} Try.checked os 4 .any (Rows.reassemblyAllSpec.pre6 enc Try.prog Try.f4 Rows.reassemblyAllRow.domain false) (Rows.reassemblyAllSpec.post enc Try.prog Try.f4 false true false false) := by
  refine returnsInHanded_of_change (C := Try.checked) own started (by kernel_rfl) Try.func4
    (ChangeSpec.witness6 (enc := enc) (C := Try.checked) false ⟨#[], #[.slice none 0 0], []⟩ 8 (by kernel_rfl) (by kernel_rfl) (by kernel_rfl) (by kernel_rfl)) ?_
  intro W base args ds gs before hval0 hW hcnd _
  have hval : ∀ (j : Nat) t v, Try.f4.params[j]? = some t → args[j]? = some v → Value.okWide Try.prog W .any base t v := hval0
  have hW' := hW
  obtain ⟨p, q, hA0, hV, rfl, hfz, hnd⟩ := hW
  have hA : DataW.TrodAll enc Try.prog W 0 (fun _ => true) true Try.f4.params.toList args.toList ds p := hA0
  rw [Try.params4] at hA hval
  obtain ⟨v0, vs0, d0, ds0, p0, q0, hargs, rfl, rfl, h0, r0⟩ := trodAll_cons hA
  obtain ⟨rfl, rfl, rfl⟩ := trodAll_nil r0
  obtain rfl : args = #[v0] := by cases args; simp_all
  obtain ⟨x0, hr0, hf0⟩ := open_buns_arg (hval 0 50 v0 rfl rfl) h0
  refine (walk x0 v0 W hr0 hf0).mono fun e W' ⟨he, hB⟩ => ?_
  subst he
  refine ⟨_, rfl, law_post (by kernel_rfl) (by kernel_rfl) rfl Try.underlying4 rfl ?_ hW' hB⟩
  intro es hes
  match es, hes with
  | [_], _ => rfl

theorem proved : Rows.ReassemblyAllSaid :=
  OpenClaim.holds_of_wide 4 Try.f4 rfl rfl rfl rfl rfl rfl rfl ⟨rfl, rfl, rfl, rfl, rfl⟩ rfl rfl rfl rfl rfl (by kernel_rfl) Try.func4 (by kernel_rfl)
    (of_decide_eq_true (by kernel_rfl)) (by unfold Func.isWrapper; first | (rw [if_pos (by decide +kernel)]; kernel_rfl) | (rw [if_neg (by decide +kernel)]; exact ⟨rfl, rfl⟩))
    (fun os started H enc _ => lifted os started H enc)
#print axioms proved
end Go.Proofs.Ytpnfkmlgelcbgaa.reassemblyAll
