/- Bookings: Free; intervals: ContainsFunc, Normal's first closure. -/
import Derived.BigQuiet
import Derived.BigRegion
import Derived.Deep.DeepCutAuto
import Derived.Deep.CutBlock
import Derived.Test.YtkokiahmgmeokaaGreatYi
set_option linter.unusedVariables false
set_option linter.unusedSimpArgs false
namespace Go.Proofs.YtkokiahmgmeokaaGreat
open Go Go.RowKit Iv
attribute [local go_sem] Oper.semAt_some
attribute [local go_sem] B_getElem B_size B_app B_extract B_get B_toList
set_option maxRecDepth 100000 in
set_option maxHeartbeats 4000000 in
theorem Free_any (qs : List Int) (cs : List Con) (l : List Bkg) (n : Nat) (c : Con) (uq uc ub : Value) (w : World) (hq : RRow intC 1 w w.heap.size uq qs) (hc : RRow conC 7 w w.heap.size uc cs) (hl : RRow bkgC 4 w w.heap.size ub l)
    (hp : PlanOK qs cs) (hb : BkOK cs l) (hn : cs[n]? = some c) (hdj : DJ c.st (busyS l n)) :
    Calls Tryz.prog 10 #[.agg #[uq, uc], ub, .int .i64 n] w (SpsPostF (outs c.en c.st (busyS l n), 0) w) := by
  have HQ := Lib.hid hq
  have HC := Lib.hid hc
  have HL := Lib.hid hl
  have HP := Lib.hid hp
  have HB := Lib.hid hb
  have HN := Lib.hid hn
  have HDJ := Lib.hid hdj
  have h512 := hb.1
  have hlt : n < cs.length := (List.getElem?_eq_some_iff.1 hn).1
  obtain ⟨aq, cq, rfl, -⟩ := hq
  obtain ⟨ac, cc, rfl, c1, c2, c3, c4⟩ := hc
  unfold maxLen at c2
  have hlc : cs.length ≤ 9223372036854775807 := by omega
  obtain ⟨bb, o, rfl, hbn, hcell⟩ := c4 (by omega)
  obtain ⟨al, cl, rfl, -⟩ := hl
  have hc2 := hcell n c hn 2 _ rfl
  have HCELL := Lib.hid hc2
  obtain ⟨R, hR⟩ : ∃ q, outs c.en c.st (busyS l n) = q := ⟨_, rfl⟩
  have HR := Lib.hid hR
  have n0 : (0 : Int) ≤ (n : Int) := by omega
  have n1 : (n : Int) < (cs.length : Int) := by omega
  rw [hR]
  clear hp hb hn hdj hcell hc2 c3 c4 hR
  go_enter Tryz.func10, Tryz.ntmps10
  go_wp2_with fail
  refine (bcheck_any qs cs l n _ _ _ _ (HQ.out.below' belowA) (HC.out.below' belowA) (HL.out.below' belowA) HP.out HB.out hlt).mono ?_
  rintro e w1 ⟨rfl, hb1⟩
  have hB1 : Below w.heap.size w w1 := btrans0 (balloc0 (Below.refl _ _)) hb1
  have GP : w1.heap[w.heap.size]? = some (.cells #[.slice aq qs.length cq, .slice (some ⟨bb, o, none⟩) cs.length cc] 25 (0, 0)) := (hb1.block _ (by simp)).trans heap_new
  have hz1 : w.heap.size < w1.heap.size := (Array.getElem?_eq_some_iff.1 GP).1
  have cp := fun q => cellB GP q
  have q2 : w1.cell? ⟨bb, o + n * 7 + 2, none⟩ = some (.int .i64 c.st) := (hB1.cell (p := ⟨bb, o + n * 7 + 2, none⟩) hbn).trans HCELL.out
  have hbn1 : bb < w1.heap.size := by omega
  clear hb1
  go_upto_region 4 with fail
  refine wp_region_plan (fun V => Below (w1).heap.size (w1) V) [1, 0, 0, 0, 1, 0, 0, 0, 1, 3, 0, 0] [0, 1, 2, 3, 4, 5, 6, 7, 8, 9, 10, 11] (by kernel_rfl) (by kernel_rfl) ?_ ?_
  case refine_1 => exact belowA
  (iterate 9 (first | (refine plan_held rfl (by decide) (by rfl) (fun w1 hS => by (try (obtain ⟨_, _⟩ := bcell (hS rfl))); go_simp; rfl) ?_; simp only [Act.put, List.setIfInBounds_toArray, List.set_cons_zero, List.set_cons_succ]) | (refine plan_skip rfl (by decide) (by rfl) ?_; simp only [Act.put, List.setIfInBounds_toArray, List.set_cons_zero, List.set_cons_succ])))
  (refine plan_late rfl rfl (by rfl) (fun K hK => ?_); go_simp)
  refine (free_any qs cs l n c _ _ _ _ (HQ.out.below' belowA) (HC.out.below' belowA) (HL.out.below' belowA) HN.out h512 HDJ.out).mono ?_
  rw [HR.out]
  rintro e wc25 hr25
  obtain ⟨u, rfl, hru, hfu, hbc25⟩ := hr25
  (refine hK _ _ ?_; clear hK K; (try simp only [Act.put, List.setIfInBounds_toArray, List.set_cons_zero, List.set_cons_succ]))
  (iterate 2 (first | (refine plan_held rfl (by decide) (by rfl) (fun w1 hS => by (try (obtain ⟨_, _⟩ := bcell (hS rfl))); go_simp; rfl) ?_; simp only [Act.put, List.setIfInBounds_toArray, List.set_cons_zero, List.set_cons_succ]) | (refine plan_skip rfl (by decide) (by rfl) ?_; simp only [Act.put, List.setIfInBounds_toArray, List.set_cons_zero, List.set_cons_succ])))
  refine plan_done ?_
  have HRU := Lib.hid hru
  have HFU := Lib.hid hfu
  have hbd : Below w1.heap.size w1 wc25 := btrans0 (bdrew (Below.refl _ w1) : Below w1.heap.size w1 w1.drew) hbc25
  clear hru hfu hbc25
  go_wp2
  go_ret2
  exact ⟨_, rfl, HRU.out, HFU.out.le (by show w.heap.size ≤ w1.heap.size; omega), btrans0 hB1 hbd⟩
def PredS (f : FuncId) (caps : Array Value) (Pd : Sp → Bool) (w : World) (l : List Sp) : Prop := (∀ args W, (callFunc f args).run Tryz.prog W = .ok (.enter f args) W) ∧
  ∀ (x : Sp) (W : World), x ∈ l → Below w.heap.size w W → Calls Tryz.prog f (#[.agg #[.int .i64 x.1, .int .i64 x.2]] ++ caps) W fun e W' => e = .returned (.bool (Pd x)) ∧ Below W.heap.size W W'
theorem PredS.below {f : FuncId} {caps : Array Value} {Pd : Sp → Bool} {w w' : World} {l : List Sp} (h : PredS f caps Pd w l) (k : Below w.heap.size w w') : PredS f caps Pd w' l := ⟨h.1, fun x W hx hW => h.2 x W hx (btrans0 k hW)⟩
def PredSIdx (Pd : Sp → Bool) (l : List Sp) (w : World) (e : Ending) (w' : World) : Prop := Below w.heap.size w w' ∧
  ((e = .returned (.int .i64 (-1)) ∧ ∀ x ∈ l, Pd x = false) ∨ ∃ k : Nat, e = .returned (.int .i64 k) ∧ k < l.length ∧ (∀ x ∈ l.take k, Pd x = false) ∧ ∀ x, l[k]? = some x → Pd x = true)
set_option maxRecDepth 100000 in
set_option maxHeartbeats 2000000 in
theorem index_PredS (l : List Sp) (u : Value) (f : FuncId) (caps : Array Value) (Pd : Sp → Bool) (w : World) (h : RSps w w.heap.size u l) (hp : PredS f caps Pd w l) :
    Calls Tryz.prog 59 #[u, .func (.func f) #[] caps] w (PredSIdx Pd l w) := by
  obtain ⟨a, c, rfl, h1, h2, h3, h4⟩ := h
  unfold maxLen at h2
  have hlen : l.length ≤ 9223372036854775807 := by omega
  have H4 := Lib.hid h4
  obtain ⟨hcall, hq⟩ := hp
  have HP := Lib.hid hq
  clear h3 h4 hq
  go_enter Tryz.func59, Tryz.ntmps59
  go_wp2
  go_loopw [8] (fun i wr => ∃ k : Nat, k ≤ l.length ∧ i = .int .i64 k ∧ Hid (∀ x ∈ l.take k, Pd x = false) ∧ Below w.heap.size w wr) (fun i _ => l.length - (intOf i).toNat)
  case atStart => exact ⟨0, Nat.zero_le _, rfl, Lib.hid (by simp), Below.refl _ _⟩
  case round =>
    obtain ⟨k, hk, rfl, HF, hB⟩ := hrel
    by_cases hlt : k < l.length
    · obtain ⟨bb, o, rfl, hbn, hcell⟩ := H4.out (by omega)
      obtain ⟨x, hx⟩ : ∃ x, l[k]? = some x := ⟨_, List.getElem?_eq_getElem hlt⟩
      have q0 : wr.cell? ⟨bb, o + k * 2, none⟩ = some (.int .i64 x.1) := (hB.cell (p := ⟨bb, o + k * 2, none⟩) hbn).trans (sp0 hcell hx)
      have q1 : wr.cell? ⟨bb, o + k * 2 + 1, none⟩ = some (.int .i64 x.2) := (hB.cell (p := ⟨bb, o + k * 2 + 1, none⟩) hbn).trans (sp1 hcell hx)
      have k0 : (0 : Int) ≤ (k : Int) := by omega
      have k1 : (k : Int) < (l.length : Int) := by omega
      obtain ⟨q, hq⟩ : ∃ q, Pd x = q := ⟨_, rfl⟩
      have HQ := Lib.hid hq
      have HX := Lib.hid hx
      have hsz := hB.size
      clear hq hx hcell
      go_wp2_with fail
      refine (HP.out x _ (List.mem_of_getElem? HX.out) hB).mono ?_
      rw [HQ.out]
      rintro e w1 ⟨rfl, hb1⟩
      have hb2 : Below w.heap.size w w1 := belowA
      cases q with
      | false =>
        go_wp2
        go_roundw
        case rel =>
          refine ⟨k + 1, by omega, by go_num, Lib.hid ?_, hb2⟩
          intro y hy
          rw [List.take_add_one, HX.out] at hy
          rcases List.mem_append.1 hy with hy | hy
          · exact HF.out y hy
          · simp at hy; subst hy; exact HQ.out
        case measure => simp [intOf]; omega
      | true =>
        go_wp2
        go_ret
        exact ⟨hb2, .inr ⟨k, rfl, hlt, HF.out, fun y hy => by rw [HX.out] at hy; injection hy with hy; subst hy; exact HQ.out⟩⟩
    · obtain rfl : k = l.length := by omega
      go_wp2
      go_ret
      exact ⟨hB, .inl ⟨rfl, by have := HF.out; rwa [List.take_length] at this⟩⟩
set_option maxHeartbeats 1000000 in
theorem contains_PredS (l : List Sp) (u : Value) (f : FuncId) (caps : Array Value) (Pd : Sp → Bool) (w : World) (h : RSps w w.heap.size u l) (hp : PredS f caps Pd w l) :
    Calls Tryz.prog 28 #[u, .func (.func f) #[] caps] w fun e w' => e = .returned (.bool (l.any Pd)) ∧ Below w.heap.size w w' := by
  have HR := Lib.hid h
  have HP := Lib.hid hp
  clear h hp
  go_enter Tryz.func28, Tryz.ntmps28
  go_wp2_with fail
  refine (index_PredS l u f caps Pd _ HR.out HP.out).mono ?_
  rintro e w1 ⟨hb1, ⟨rfl, hF⟩ | ⟨k, rfl, hk, hF, hT⟩⟩
  · have HL : Hid (l.any Pd = false) := Lib.hid (by rw [List.any_eq_false]; intro x hx; rw [hF x hx]; simp)
    clear hF
    go_wp2
    go_ret
    exact ⟨by rw [HL.out]; rfl, hb1⟩
  · have HL : Hid (l.any Pd = true) := Lib.hid (by rw [List.any_eq_true]; exact ⟨l[k], List.getElem_mem hk, hT _ (List.getElem?_eq_getElem hk)⟩)
    clear hF hT
    go_wp2
    go_ret
    exact ⟨by rw [HL.out]; first | rfl | (simp; done), hb1⟩
end Go.Proofs.YtkokiahmgmeokaaGreat
