/- Layer 14 (extension): get; Age, Hops, Visited. -/
import Derived.Test.YthgokfceakbjlaaAe
import Derived.Test.YthgokfceakbjlaaAf
import Derived.Test.YthgokfceakbjlaaJn
import Derived.Test.YthgokfceakbjlaaJp
import Derived.Test.YthgokfceakbjlaaJi
set_option linter.unusedVariables false
set_option linter.unusedSimpArgs false
namespace Go.Proofs.Ythgokfceakbjlaa
open Go Go.RowKit
attribute [local go_sem] B_getElem B_size B_app B_extract B_get B_toList

theorem RBlks.below' {w w' : World} {v : Value} {l : List Blk} (h : RBlks w w.heap.size v l) (k : Below w.heap.size w w') : RBlks w' w'.heap.size v l := h.below k (Nat.le_refl _) k.size
theorem RInts.below' {w w' : World} {v : Value} {l : List Int} (h : RInts w w.heap.size v l) (k : Below w.heap.size w w') : RInts w' w'.heap.size v l := h.below k (Nat.le_refl _) k.size
/-- the numbers of a block -/
def getS (b : Bun) (kind : Int) : List Int × Int :=
  if chkE b ≠ 0 then ([], 1) else if (findS b.blocks kind).2 = false then ([], 7) else match dat kind (findS b.blocks kind).1.data with
  | none => ([], 11)
  | some l => (l, 0)
theorem getS_bad {b : Bun} {k : Int} (h : chkE b ≠ 0) : getS b k = ([], 1) := if_pos h
theorem getS_no {b : Bun} {k : Int} {x : Blk} (h : chkE b = 0) (h2 : findS b.blocks k = (x, false)) : getS b k = ([], 7) := by unfold getS; rw [if_neg (by simpa using h), h2]; rfl
theorem getS_yes {b : Bun} {k : Int} {x : Blk} (h : chkE b = 0) (h2 : findS b.blocks k = (x, true)) : getS b k = match dat k x.data with | none => ([], 11) | some l => (l, 0) := by
  unfold getS; rw [if_neg (by simpa using h), h2, if_neg (by simp)]
theorem find_data {b : Bun} {k : Int} {x : Blk} (h : chkE b = 0) (h2 : findS b.blocks k = (x, true)) : x ∈ b.blocks ∧ x.kind = k ∧ x.data.length ≤ 1024 := by
  rcases find_cases b.blocks k with ⟨h3, _⟩ | ⟨y, hy, hk, h3⟩
  · rw [h3] at h2; simp at h2
  · rw [h3] at h2
    simp only [Prod.mk.injEq, and_true] at h2
    subst h2
    obtain ⟨_, _, h5, _⟩ := chkE_zero h
    have := blkE_zero (firstE_zero (blksE_zero h5).2.1 _ hy)
    exact ⟨hy, hk, this.2.2.2.2⟩
def GetPost (r : List Int × Int) (w : World) (e : Ending) (w' : World) : Prop := ∃ v, e = .returned (.tuple #[v, .int .i64 r.2]) ∧ Below w.heap.size w w' ∧ RInts w' w'.heap.size v r.1
def tabP : Array Value := #[.nilFunc, .func (Fn.func 77) #[] #[], .func (Fn.func 79) #[] #[], .func (Fn.func 80) #[] #[]]
set_option maxRecDepth 100000 in
theorem parsers_any (w : World) : Calls Try.prog 57 #[] w fun e w' => e = .returned (.agg tabP) ∧ Below w.heap.size w w' := by
  unfold tabP
  go_enter Try.func57, Try.ntmps57
  go_wp2
  refine bodyPost_ret (v := .agg #[.nilFunc, .func (Fn.func 77) #[] #[], .func (Fn.func 79) #[] #[], .func (Fn.func 80) #[] #[]]) (by simp [results, Try.results57, go_sem]) rfl ?_
  exact ⟨rfl, (by repeat' (first | with_reducible (first | refine bset ?_ ?_ | exact Below.refl _ _ | assumption | refine bdrewN ?_ _ | refine bdrew ?_ | refine balloc0 ?_ | refine balloc ?_ ?_ | (apply btrans0; rotate_left; assumption) | (apply btrans; rotate_left; assumption)) | exact Below.refl _ _ | assumption | (apply btrans0; rotate_left; assumption) | (apply btrans; rotate_left; assumption) | (simp; done) | omega | (simp; omega)))⟩
set_option maxRecDepth 100000 in
set_option maxHeartbeats 4000000 in
theorem get1_any (b : Bun) (u : Value) (w : World) (h : RBlks w w.heap.size u b.blocks) (hf : Fits b) :
    Calls Try.prog 31 #[.agg (bunC b u).toArray, .int .i64 1] w (GetPost (getS b 1) w) := by
  have HF := Lib.hid hf
  have HR := Lib.hid h
  obtain ⟨a, c, rfl, h1, h2, h3, h4⟩ := h
  clear h1 h2 h3 h4 hf
  obtain ⟨E, hE⟩ : ∃ q, chkE b = q := ⟨_, rfl⟩
  have HE := Lib.hid hE
  by_cases z : E = 0
  case neg =>
    have z' : (E != 0) = true := by rw [bne_iff_ne]; exact z
    rw [getS_bad (by rw [hE]; exact z)]
    clear hE z
    go_enter Try.func31, Try.ntmps31
    simp only [bunC]
    go_wp2_with fail
    refine (check_any b _ _ (HR.out.below' (by repeat' (first | with_reducible (first | refine bset ?_ ?_ | exact Below.refl _ _ | assumption | refine bdrewN ?_ _ | refine bdrew ?_ | refine balloc0 ?_ | refine balloc ?_ ?_ | (apply btrans0; rotate_left; assumption) | (apply btrans; rotate_left; assumption)) | exact Below.refl _ _ | assumption | (apply btrans0; rotate_left; assumption) | (apply btrans; rotate_left; assumption) | (simp; done) | omega | (simp; omega)))) HF.out).mono ?_
    rw [HE.out]
    rintro e w1 ⟨rfl, hb1⟩
    have hB1 : Below w.heap.size w w1 := (by repeat' (first | with_reducible (first | refine bset ?_ ?_ | exact Below.refl _ _ | assumption | refine bdrewN ?_ _ | refine bdrew ?_ | refine balloc0 ?_ | refine balloc ?_ ?_ | (apply btrans0; rotate_left; assumption) | (apply btrans; rotate_left; assumption)) | exact Below.refl _ _ | assumption | (apply btrans0; rotate_left; assumption) | (apply btrans; rotate_left; assumption) | (simp; done) | omega | (simp; omega)))
    have z1 : w.heap.size < w1.heap.size := by have := hb1.size; simp at this; omega
    have A1 : w1.heap[w.heap.size]? = some (.cells (bunC b (.slice a b.blocks.length c)).toArray 28 (0, 0)) := (hb1.block _ (by simp)).trans heap_new
    have ca := fun o => cellB A1 o
    simp only [bunC] at ca
    clear A1 hb1
    go_wp2
    go_ret2
    unfold GetPost
    exact ⟨_, rfl, (by repeat' (first | with_reducible (first | refine bset ?_ ?_ | exact Below.refl _ _ | assumption | refine bdrewN ?_ _ | refine bdrew ?_ | refine balloc0 ?_ | refine balloc ?_ ?_ | (apply btrans0; rotate_left; assumption) | (apply btrans; rotate_left; assumption)) | exact Below.refl _ _ | assumption | (apply btrans0; rotate_left; assumption) | (apply btrans; rotate_left; assumption) | (simp; done) | omega | (simp; omega))), RInts.nil0 _ _⟩
  subst z
  obtain ⟨⟨x, q⟩, hfi⟩ : ∃ q, findS b.blocks 1 = q := ⟨_, rfl⟩
  have HFI := Lib.hid hfi
  cases q with
  | false =>
    rw [getS_no hE hfi]
    clear hE hfi
    go_enter Try.func31, Try.ntmps31
    simp only [bunC]
    go_wp2_with fail
    refine (check_any b _ _ (HR.out.below' (by repeat' (first | with_reducible (first | refine bset ?_ ?_ | exact Below.refl _ _ | assumption | refine bdrewN ?_ _ | refine bdrew ?_ | refine balloc0 ?_ | refine balloc ?_ ?_ | (apply btrans0; rotate_left; assumption) | (apply btrans; rotate_left; assumption)) | exact Below.refl _ _ | assumption | (apply btrans0; rotate_left; assumption) | (apply btrans; rotate_left; assumption) | (simp; done) | omega | (simp; omega)))) HF.out).mono ?_
    rw [HE.out]
    rintro e w1 ⟨rfl, hb1⟩
    have hB1 : Below w.heap.size w w1 := (by repeat' (first | with_reducible (first | refine bset ?_ ?_ | exact Below.refl _ _ | assumption | refine bdrewN ?_ _ | refine bdrew ?_ | refine balloc0 ?_ | refine balloc ?_ ?_ | (apply btrans0; rotate_left; assumption) | (apply btrans; rotate_left; assumption)) | exact Below.refl _ _ | assumption | (apply btrans0; rotate_left; assumption) | (apply btrans; rotate_left; assumption) | (simp; done) | omega | (simp; omega)))
    have z1 : w.heap.size < w1.heap.size := by have := hb1.size; simp at this; omega
    have A1 : w1.heap[w.heap.size]? = some (.cells (bunC b (.slice a b.blocks.length c)).toArray 28 (0, 0)) := (hb1.block _ (by simp)).trans heap_new
    have ca := fun o => cellB A1 o
    simp only [bunC] at ca
    clear A1 hb1
    go_wp2_with fail
    refine (find_any b.blocks _ 1 _ (HR.out.below' (by repeat' (first | with_reducible (first | refine bset ?_ ?_ | exact Below.refl _ _ | assumption | refine bdrewN ?_ _ | refine bdrew ?_ | refine balloc0 ?_ | refine balloc ?_ ?_ | (apply btrans0; rotate_left; assumption) | (apply btrans; rotate_left; assumption)) | exact Below.refl _ _ | assumption | (apply btrans0; rotate_left; assumption) | (apply btrans; rotate_left; assumption) | (simp; done) | omega | (simp; omega))))).mono ?_
    rw [HFI.out]
    simp only
    rintro e w2 ⟨rfl, hb2⟩
    have hB2 : Below w.heap.size w w2 := (by repeat' (first | with_reducible (first | refine bset ?_ ?_ | exact Below.refl _ _ | assumption | refine bdrewN ?_ _ | refine bdrew ?_ | refine balloc0 ?_ | refine balloc ?_ ?_ | (apply btrans0; rotate_left; assumption) | (apply btrans; rotate_left; assumption)) | exact Below.refl _ _ | assumption | (apply btrans0; rotate_left; assumption) | (apply btrans; rotate_left; assumption) | (simp; done) | omega | (simp; omega)))
    clear hb2 ca
    go_wp2
    go_ret2
    unfold GetPost
    exact ⟨_, rfl, (by repeat' (first | with_reducible (first | refine bset ?_ ?_ | exact Below.refl _ _ | assumption | refine bdrewN ?_ _ | refine bdrew ?_ | refine balloc0 ?_ | refine balloc ?_ ?_ | (apply btrans0; rotate_left; assumption) | (apply btrans; rotate_left; assumption)) | exact Below.refl _ _ | assumption | (apply btrans0; rotate_left; assumption) | (apply btrans; rotate_left; assumption) | (simp; done) | omega | (simp; omega))), RInts.nil0 _ _⟩
  | true =>
    have hdl := (find_data hE hfi).2.2
    have hg := getS_yes hE hfi
    obtain ⟨xk, xf, D⟩ := x
    simp only at hdl hg
    rw [show dat 1 D = num1 D by (first | rfl | (unfold dat; simp))] at hg
    obtain ⟨R, hR⟩ : ∃ q, getS b 1 = q := ⟨_, rfl⟩
    rw [hR] at hg ⊢
    have HG := Lib.hid hg
    clear hE hfi hg hR
    go_enter Try.func31, Try.ntmps31
    simp only [bunC]
    go_wp2_with fail
    refine (check_any b _ _ (HR.out.below' (by repeat' (first | with_reducible (first | refine bset ?_ ?_ | exact Below.refl _ _ | assumption | refine bdrewN ?_ _ | refine bdrew ?_ | refine balloc0 ?_ | refine balloc ?_ ?_ | (apply btrans0; rotate_left; assumption) | (apply btrans; rotate_left; assumption)) | exact Below.refl _ _ | assumption | (apply btrans0; rotate_left; assumption) | (apply btrans; rotate_left; assumption) | (simp; done) | omega | (simp; omega)))) HF.out).mono ?_
    rw [HE.out]
    rintro e w1 ⟨rfl, hb1⟩
    have hB1 : Below w.heap.size w w1 := (by repeat' (first | with_reducible (first | refine bset ?_ ?_ | exact Below.refl _ _ | assumption | refine bdrewN ?_ _ | refine bdrew ?_ | refine balloc0 ?_ | refine balloc ?_ ?_ | (apply btrans0; rotate_left; assumption) | (apply btrans; rotate_left; assumption)) | exact Below.refl _ _ | assumption | (apply btrans0; rotate_left; assumption) | (apply btrans; rotate_left; assumption) | (simp; done) | omega | (simp; omega)))
    have z1 : w.heap.size < w1.heap.size := by have := hb1.size; simp at this; omega
    have A1 : w1.heap[w.heap.size]? = some (.cells (bunC b (.slice a b.blocks.length c)).toArray 28 (0, 0)) := (hb1.block _ (by simp)).trans heap_new
    have ca := fun o => cellB A1 o
    simp only [bunC] at ca
    clear A1 hb1
    go_wp2_with fail
    refine (find_any b.blocks _ 1 _ (HR.out.below' (by repeat' (first | with_reducible (first | refine bset ?_ ?_ | exact Below.refl _ _ | assumption | refine bdrewN ?_ _ | refine bdrew ?_ | refine balloc0 ?_ | refine balloc ?_ ?_ | (apply btrans0; rotate_left; assumption) | (apply btrans; rotate_left; assumption)) | exact Below.refl _ _ | assumption | (apply btrans0; rotate_left; assumption) | (apply btrans; rotate_left; assumption) | (simp; done) | omega | (simp; omega))))).mono ?_
    rw [HFI.out]
    simp only
    rintro e w2 ⟨rfl, hb2⟩
    have hB2 : Below w.heap.size w w2 := (by repeat' (first | with_reducible (first | refine bset ?_ ?_ | exact Below.refl _ _ | assumption | refine bdrewN ?_ _ | refine bdrew ?_ | refine balloc0 ?_ | refine balloc ?_ ?_ | (apply btrans0; rotate_left; assumption) | (apply btrans; rotate_left; assumption)) | exact Below.refl _ _ | assumption | (apply btrans0; rotate_left; assumption) | (apply btrans; rotate_left; assumption) | (simp; done) | omega | (simp; omega)))
    clear hb2 ca
    go_wp2_with fail
    refine (parsers_any _).mono ?_
    unfold tabP
    rintro e w3 ⟨rfl, hb3⟩
    have hB3 : Below w.heap.size w w3 := (by repeat' (first | with_reducible (first | refine bset ?_ ?_ | exact Below.refl _ _ | assumption | refine bdrewN ?_ _ | refine bdrew ?_ | refine balloc0 ?_ | refine balloc ?_ ?_ | (apply btrans0; rotate_left; assumption) | (apply btrans; rotate_left; assumption)) | exact Below.refl _ _ | assumption | (apply btrans0; rotate_left; assumption) | (apply btrans; rotate_left; assumption) | (simp; done) | omega | (simp; omega)))
    have z3 : w2.heap.size < w3.heap.size := by have := hb3.size; simp at this; omega
    have X3 : w3.heap[w2.heap.size]? = some (.cells #[.int .i64 xk, .int .i64 xf, .string (B D)] 56 (0, 0)) := (hb3.block _ (by simp)).trans heap_new
    clear hb3
    go_wp2
    have c4 : ∀ o, (w3.alloc (.cells tabP 80)).cell? ⟨w2.heap.size, o, none⟩ = #[Value.int .i64 xk, .int .i64 xf, .string (B D)][o]? := fun o => cellB ((Below.heap_alloc w3 (.cells tabP 80) _ z3).trans X3) o
    have d4 : ∀ o, (w3.alloc (.cells tabP 80)).cell? ⟨w3.heap.size, o, none⟩ = tabP[o]? := fun o => cellB heap_new o
    have zb4 : w3.heap.size < (w3.alloc (.cells tabP 80)).heap.size := by simp
    have za4 : w2.heap.size < (w3.alloc (.cells tabP 80)).heap.size := by simp; omega
    have hB4 : Below w.heap.size w (w3.alloc (.cells tabP 80)) := (by repeat' (first | with_reducible (first | refine bset ?_ ?_ | exact Below.refl _ _ | assumption | refine bdrewN ?_ _ | refine bdrew ?_ | refine balloc0 ?_ | refine balloc ?_ ?_ | (apply btrans0; rotate_left; assumption) | (apply btrans; rotate_left; assumption)) | exact Below.refl _ _ | assumption | (apply btrans0; rotate_left; assumption) | (apply btrans; rotate_left; assumption) | (simp; done) | omega | (simp; omega)))
    unfold tabP at d4 c4 zb4 za4 hB4
    clear X3
    generalize w3.alloc (.cells _ _) = w4 at *
    refine wp_region_plan (fun V => Below (w4).heap.size (w4) V) [0, 0, 0, 1, 0, 1, 3, 0, 0, 0, 0, 0] [0, 1, 2, 3, 4, 5, 6, 7, 8, 9, 10, 11] (by kernel_rfl) (by kernel_rfl) ?_ ?_
    case refine_1 => exact (by repeat' (first | with_reducible (first | refine bset ?_ ?_ | exact Below.refl _ _ | assumption | refine bdrewN ?_ _ | refine bdrew ?_ | refine balloc0 ?_ | refine balloc ?_ ?_ | (apply btrans0; rotate_left; assumption) | (apply btrans; rotate_left; assumption)) | exact Below.refl _ _ | assumption | (apply btrans0; rotate_left; assumption) | (apply btrans; rotate_left; assumption) | (simp; done) | omega | (simp; omega)))
    (iterate 6 (first | (refine plan_held rfl (by decide) (by rfl) (fun w1 hS => by (try (obtain ⟨_, _⟩ := bcell (hS rfl))); go_simp; rfl) ?_; simp only [Act.put, List.setIfInBounds_toArray, List.set_cons_zero, List.set_cons_succ]) | (refine plan_skip rfl (by decide) (by rfl) ?_; simp only [Act.put, List.setIfInBounds_toArray, List.set_cons_zero, List.set_cons_succ])))
    (refine plan_late rfl rfl (by rfl) (fun K hK => ?_); go_simp)
    refine (parse1_any D _ (by omega)).mono ?_
    unfold ParsePost
    rintro e wc31 ⟨v, l, ok, rfl, hbc31, hri, hok⟩
    (refine hK _ _ ?_; clear hK K; (try simp only [Act.put, List.setIfInBounds_toArray, List.set_cons_zero, List.set_cons_succ]))
    (iterate 5 (first | (refine plan_held rfl (by decide) (by rfl) (fun w1 hS => by (try (obtain ⟨_, _⟩ := bcell (hS rfl))); go_simp; rfl) ?_; simp only [Act.put, List.setIfInBounds_toArray, List.set_cons_zero, List.set_cons_succ]) | (refine plan_skip rfl (by decide) (by rfl) ?_; simp only [Act.put, List.setIfInBounds_toArray, List.set_cons_zero, List.set_cons_succ])))
    refine plan_done ?_
    have HRI := Lib.hid hri
    cases ok with
    | false =>
      have HR0 : Hid (R = ([], 11)) := Lib.hid (by rw [HG.out, show num1 D = none from hok])
      clear hok hri
      go_wp2
      go_ret2
      unfold GetPost
      rw [HR0.out]
      exact ⟨_, rfl, (by repeat' (first | with_reducible (first | refine bset ?_ ?_ | exact Below.refl _ _ | assumption | refine bdrewN ?_ _ | refine bdrew ?_ | refine balloc0 ?_ | refine balloc ?_ ?_ | (apply btrans0; rotate_left; assumption) | (apply btrans; rotate_left; assumption)) | exact Below.refl _ _ | assumption | (apply btrans0; rotate_left; assumption) | (apply btrans; rotate_left; assumption) | (simp; done) | omega | (simp; omega))), RInts.nil0 _ _⟩
    | true =>
      have HR0 : Hid (R = (l, 0)) := Lib.hid (by rw [HG.out, show num1 D = some l from hok])
      clear hok hri
      go_wp2
      go_ret2
      unfold GetPost
      rw [HR0.out]
      exact ⟨_, rfl, (by repeat' (first | with_reducible (first | refine bset ?_ ?_ | exact Below.refl _ _ | assumption | refine bdrewN ?_ _ | refine bdrew ?_ | refine balloc0 ?_ | refine balloc ?_ ?_ | (apply btrans0; rotate_left; assumption) | (apply btrans; rotate_left; assumption)) | exact Below.refl _ _ | assumption | (apply btrans0; rotate_left; assumption) | (apply btrans; rotate_left; assumption) | (simp; done) | omega | (simp; omega))), HRI.out.below' (by repeat' (first | with_reducible (first | refine bset ?_ ?_ | exact Below.refl _ _ | assumption | refine bdrewN ?_ _ | refine bdrew ?_ | refine balloc0 ?_ | refine balloc ?_ ?_ | (apply btrans0; rotate_left; assumption) | (apply btrans; rotate_left; assumption)) | exact Below.refl _ _ | assumption | (apply btrans0; rotate_left; assumption) | (apply btrans; rotate_left; assumption) | (simp; done) | omega | (simp; omega)))⟩
set_option maxRecDepth 100000 in
set_option maxHeartbeats 4000000 in
theorem get2_any (b : Bun) (u : Value) (w : World) (h : RBlks w w.heap.size u b.blocks) (hf : Fits b) :
    Calls Try.prog 31 #[.agg (bunC b u).toArray, .int .i64 2] w (GetPost (getS b 2) w) := by
  have HF := Lib.hid hf
  have HR := Lib.hid h
  obtain ⟨a, c, rfl, h1, h2, h3, h4⟩ := h
  clear h1 h2 h3 h4 hf
  obtain ⟨E, hE⟩ : ∃ q, chkE b = q := ⟨_, rfl⟩
  have HE := Lib.hid hE
  by_cases z : E = 0
  case neg =>
    have z' : (E != 0) = true := by rw [bne_iff_ne]; exact z
    rw [getS_bad (by rw [hE]; exact z)]
    clear hE z
    go_enter Try.func31, Try.ntmps31
    simp only [bunC]
    go_wp2_with fail
    refine (check_any b _ _ (HR.out.below' (by repeat' (first | with_reducible (first | refine bset ?_ ?_ | exact Below.refl _ _ | assumption | refine bdrewN ?_ _ | refine bdrew ?_ | refine balloc0 ?_ | refine balloc ?_ ?_ | (apply btrans0; rotate_left; assumption) | (apply btrans; rotate_left; assumption)) | exact Below.refl _ _ | assumption | (apply btrans0; rotate_left; assumption) | (apply btrans; rotate_left; assumption) | (simp; done) | omega | (simp; omega)))) HF.out).mono ?_
    rw [HE.out]
    rintro e w1 ⟨rfl, hb1⟩
    have hB1 : Below w.heap.size w w1 := (by repeat' (first | with_reducible (first | refine bset ?_ ?_ | exact Below.refl _ _ | assumption | refine bdrewN ?_ _ | refine bdrew ?_ | refine balloc0 ?_ | refine balloc ?_ ?_ | (apply btrans0; rotate_left; assumption) | (apply btrans; rotate_left; assumption)) | exact Below.refl _ _ | assumption | (apply btrans0; rotate_left; assumption) | (apply btrans; rotate_left; assumption) | (simp; done) | omega | (simp; omega)))
    have z1 : w.heap.size < w1.heap.size := by have := hb1.size; simp at this; omega
    have A1 : w1.heap[w.heap.size]? = some (.cells (bunC b (.slice a b.blocks.length c)).toArray 28 (0, 0)) := (hb1.block _ (by simp)).trans heap_new
    have ca := fun o => cellB A1 o
    simp only [bunC] at ca
    clear A1 hb1
    go_wp2
    go_ret2
    unfold GetPost
    exact ⟨_, rfl, (by repeat' (first | with_reducible (first | refine bset ?_ ?_ | exact Below.refl _ _ | assumption | refine bdrewN ?_ _ | refine bdrew ?_ | refine balloc0 ?_ | refine balloc ?_ ?_ | (apply btrans0; rotate_left; assumption) | (apply btrans; rotate_left; assumption)) | exact Below.refl _ _ | assumption | (apply btrans0; rotate_left; assumption) | (apply btrans; rotate_left; assumption) | (simp; done) | omega | (simp; omega))), RInts.nil0 _ _⟩
  subst z
  obtain ⟨⟨x, q⟩, hfi⟩ : ∃ q, findS b.blocks 2 = q := ⟨_, rfl⟩
  have HFI := Lib.hid hfi
  cases q with
  | false =>
    rw [getS_no hE hfi]
    clear hE hfi
    go_enter Try.func31, Try.ntmps31
    simp only [bunC]
    go_wp2_with fail
    refine (check_any b _ _ (HR.out.below' (by repeat' (first | with_reducible (first | refine bset ?_ ?_ | exact Below.refl _ _ | assumption | refine bdrewN ?_ _ | refine bdrew ?_ | refine balloc0 ?_ | refine balloc ?_ ?_ | (apply btrans0; rotate_left; assumption) | (apply btrans; rotate_left; assumption)) | exact Below.refl _ _ | assumption | (apply btrans0; rotate_left; assumption) | (apply btrans; rotate_left; assumption) | (simp; done) | omega | (simp; omega)))) HF.out).mono ?_
    rw [HE.out]
    rintro e w1 ⟨rfl, hb1⟩
    have hB1 : Below w.heap.size w w1 := (by repeat' (first | with_reducible (first | refine bset ?_ ?_ | exact Below.refl _ _ | assumption | refine bdrewN ?_ _ | refine bdrew ?_ | refine balloc0 ?_ | refine balloc ?_ ?_ | (apply btrans0; rotate_left; assumption) | (apply btrans; rotate_left; assumption)) | exact Below.refl _ _ | assumption | (apply btrans0; rotate_left; assumption) | (apply btrans; rotate_left; assumption) | (simp; done) | omega | (simp; omega)))
    have z1 : w.heap.size < w1.heap.size := by have := hb1.size; simp at this; omega
    have A1 : w1.heap[w.heap.size]? = some (.cells (bunC b (.slice a b.blocks.length c)).toArray 28 (0, 0)) := (hb1.block _ (by simp)).trans heap_new
    have ca := fun o => cellB A1 o
    simp only [bunC] at ca
    clear A1 hb1
    go_wp2_with fail
    refine (find_any b.blocks _ 2 _ (HR.out.below' (by repeat' (first | with_reducible (first | refine bset ?_ ?_ | exact Below.refl _ _ | assumption | refine bdrewN ?_ _ | refine bdrew ?_ | refine balloc0 ?_ | refine balloc ?_ ?_ | (apply btrans0; rotate_left; assumption) | (apply btrans; rotate_left; assumption)) | exact Below.refl _ _ | assumption | (apply btrans0; rotate_left; assumption) | (apply btrans; rotate_left; assumption) | (simp; done) | omega | (simp; omega))))).mono ?_
    rw [HFI.out]
    simp only
    rintro e w2 ⟨rfl, hb2⟩
    have hB2 : Below w.heap.size w w2 := (by repeat' (first | with_reducible (first | refine bset ?_ ?_ | exact Below.refl _ _ | assumption | refine bdrewN ?_ _ | refine bdrew ?_ | refine balloc0 ?_ | refine balloc ?_ ?_ | (apply btrans0; rotate_left; assumption) | (apply btrans; rotate_left; assumption)) | exact Below.refl _ _ | assumption | (apply btrans0; rotate_left; assumption) | (apply btrans; rotate_left; assumption) | (simp; done) | omega | (simp; omega)))
    clear hb2 ca
    go_wp2
    go_ret2
    unfold GetPost
    exact ⟨_, rfl, (by repeat' (first | with_reducible (first | refine bset ?_ ?_ | exact Below.refl _ _ | assumption | refine bdrewN ?_ _ | refine bdrew ?_ | refine balloc0 ?_ | refine balloc ?_ ?_ | (apply btrans0; rotate_left; assumption) | (apply btrans; rotate_left; assumption)) | exact Below.refl _ _ | assumption | (apply btrans0; rotate_left; assumption) | (apply btrans; rotate_left; assumption) | (simp; done) | omega | (simp; omega))), RInts.nil0 _ _⟩
  | true =>
    have hdl := (find_data hE hfi).2.2
    have hg := getS_yes hE hfi
    obtain ⟨xk, xf, D⟩ := x
    simp only at hdl hg
    rw [show dat 2 D = num2 D by (first | rfl | (unfold dat; simp))] at hg
    obtain ⟨R, hR⟩ : ∃ q, getS b 2 = q := ⟨_, rfl⟩
    rw [hR] at hg ⊢
    have HG := Lib.hid hg
    clear hE hfi hg hR
    go_enter Try.func31, Try.ntmps31
    simp only [bunC]
    go_wp2_with fail
    refine (check_any b _ _ (HR.out.below' (by repeat' (first | with_reducible (first | refine bset ?_ ?_ | exact Below.refl _ _ | assumption | refine bdrewN ?_ _ | refine bdrew ?_ | refine balloc0 ?_ | refine balloc ?_ ?_ | (apply btrans0; rotate_left; assumption) | (apply btrans; rotate_left; assumption)) | exact Below.refl _ _ | assumption | (apply btrans0; rotate_left; assumption) | (apply btrans; rotate_left; assumption) | (simp; done) | omega | (simp; omega)))) HF.out).mono ?_
    rw [HE.out]
    rintro e w1 ⟨rfl, hb1⟩
    have hB1 : Below w.heap.size w w1 := (by repeat' (first | with_reducible (first | refine bset ?_ ?_ | exact Below.refl _ _ | assumption | refine bdrewN ?_ _ | refine bdrew ?_ | refine balloc0 ?_ | refine balloc ?_ ?_ | (apply btrans0; rotate_left; assumption) | (apply btrans; rotate_left; assumption)) | exact Below.refl _ _ | assumption | (apply btrans0; rotate_left; assumption) | (apply btrans; rotate_left; assumption) | (simp; done) | omega | (simp; omega)))
    have z1 : w.heap.size < w1.heap.size := by have := hb1.size; simp at this; omega
    have A1 : w1.heap[w.heap.size]? = some (.cells (bunC b (.slice a b.blocks.length c)).toArray 28 (0, 0)) := (hb1.block _ (by simp)).trans heap_new
    have ca := fun o => cellB A1 o
    simp only [bunC] at ca
    clear A1 hb1
    go_wp2_with fail
    refine (find_any b.blocks _ 2 _ (HR.out.below' (by repeat' (first | with_reducible (first | refine bset ?_ ?_ | exact Below.refl _ _ | assumption | refine bdrewN ?_ _ | refine bdrew ?_ | refine balloc0 ?_ | refine balloc ?_ ?_ | (apply btrans0; rotate_left; assumption) | (apply btrans; rotate_left; assumption)) | exact Below.refl _ _ | assumption | (apply btrans0; rotate_left; assumption) | (apply btrans; rotate_left; assumption) | (simp; done) | omega | (simp; omega))))).mono ?_
    rw [HFI.out]
    simp only
    rintro e w2 ⟨rfl, hb2⟩
    have hB2 : Below w.heap.size w w2 := (by repeat' (first | with_reducible (first | refine bset ?_ ?_ | exact Below.refl _ _ | assumption | refine bdrewN ?_ _ | refine bdrew ?_ | refine balloc0 ?_ | refine balloc ?_ ?_ | (apply btrans0; rotate_left; assumption) | (apply btrans; rotate_left; assumption)) | exact Below.refl _ _ | assumption | (apply btrans0; rotate_left; assumption) | (apply btrans; rotate_left; assumption) | (simp; done) | omega | (simp; omega)))
    clear hb2 ca
    go_wp2_with fail
    refine (parsers_any _).mono ?_
    unfold tabP
    rintro e w3 ⟨rfl, hb3⟩
    have hB3 : Below w.heap.size w w3 := (by repeat' (first | with_reducible (first | refine bset ?_ ?_ | exact Below.refl _ _ | assumption | refine bdrewN ?_ _ | refine bdrew ?_ | refine balloc0 ?_ | refine balloc ?_ ?_ | (apply btrans0; rotate_left; assumption) | (apply btrans; rotate_left; assumption)) | exact Below.refl _ _ | assumption | (apply btrans0; rotate_left; assumption) | (apply btrans; rotate_left; assumption) | (simp; done) | omega | (simp; omega)))
    have z3 : w2.heap.size < w3.heap.size := by have := hb3.size; simp at this; omega
    have X3 : w3.heap[w2.heap.size]? = some (.cells #[.int .i64 xk, .int .i64 xf, .string (B D)] 56 (0, 0)) := (hb3.block _ (by simp)).trans heap_new
    clear hb3
    go_wp2
    have c4 : ∀ o, (w3.alloc (.cells tabP 80)).cell? ⟨w2.heap.size, o, none⟩ = #[Value.int .i64 xk, .int .i64 xf, .string (B D)][o]? := fun o => cellB ((Below.heap_alloc w3 (.cells tabP 80) _ z3).trans X3) o
    have d4 : ∀ o, (w3.alloc (.cells tabP 80)).cell? ⟨w3.heap.size, o, none⟩ = tabP[o]? := fun o => cellB heap_new o
    have zb4 : w3.heap.size < (w3.alloc (.cells tabP 80)).heap.size := by simp
    have za4 : w2.heap.size < (w3.alloc (.cells tabP 80)).heap.size := by simp; omega
    have hB4 : Below w.heap.size w (w3.alloc (.cells tabP 80)) := (by repeat' (first | with_reducible (first | refine bset ?_ ?_ | exact Below.refl _ _ | assumption | refine bdrewN ?_ _ | refine bdrew ?_ | refine balloc0 ?_ | refine balloc ?_ ?_ | (apply btrans0; rotate_left; assumption) | (apply btrans; rotate_left; assumption)) | exact Below.refl _ _ | assumption | (apply btrans0; rotate_left; assumption) | (apply btrans; rotate_left; assumption) | (simp; done) | omega | (simp; omega)))
    unfold tabP at d4 c4 zb4 za4 hB4
    clear X3
    generalize w3.alloc (.cells _ _) = w4 at *
    refine wp_region_plan (fun V => Below (w4).heap.size (w4) V) [0, 0, 0, 1, 0, 1, 3, 0, 0, 0, 0, 0] [0, 1, 2, 3, 4, 5, 6, 7, 8, 9, 10, 11] (by kernel_rfl) (by kernel_rfl) ?_ ?_
    case refine_1 => exact (by repeat' (first | with_reducible (first | refine bset ?_ ?_ | exact Below.refl _ _ | assumption | refine bdrewN ?_ _ | refine bdrew ?_ | refine balloc0 ?_ | refine balloc ?_ ?_ | (apply btrans0; rotate_left; assumption) | (apply btrans; rotate_left; assumption)) | exact Below.refl _ _ | assumption | (apply btrans0; rotate_left; assumption) | (apply btrans; rotate_left; assumption) | (simp; done) | omega | (simp; omega)))
    (iterate 6 (first | (refine plan_held rfl (by decide) (by rfl) (fun w1 hS => by (try (obtain ⟨_, _⟩ := bcell (hS rfl))); go_simp; rfl) ?_; simp only [Act.put, List.setIfInBounds_toArray, List.set_cons_zero, List.set_cons_succ]) | (refine plan_skip rfl (by decide) (by rfl) ?_; simp only [Act.put, List.setIfInBounds_toArray, List.set_cons_zero, List.set_cons_succ])))
    (refine plan_late rfl rfl (by rfl) (fun K hK => ?_); go_simp)
    refine (parse2_any D _ (by omega)).mono ?_
    unfold ParsePost
    rintro e wc31 ⟨v, l, ok, rfl, hbc31, hri, hok⟩
    (refine hK _ _ ?_; clear hK K; (try simp only [Act.put, List.setIfInBounds_toArray, List.set_cons_zero, List.set_cons_succ]))
    (iterate 5 (first | (refine plan_held rfl (by decide) (by rfl) (fun w1 hS => by (try (obtain ⟨_, _⟩ := bcell (hS rfl))); go_simp; rfl) ?_; simp only [Act.put, List.setIfInBounds_toArray, List.set_cons_zero, List.set_cons_succ]) | (refine plan_skip rfl (by decide) (by rfl) ?_; simp only [Act.put, List.setIfInBounds_toArray, List.set_cons_zero, List.set_cons_succ])))
    refine plan_done ?_
    have HRI := Lib.hid hri
    cases ok with
    | false =>
      have HR0 : Hid (R = ([], 11)) := Lib.hid (by rw [HG.out, show num2 D = none from hok])
      clear hok hri
      go_wp2
      go_ret2
      unfold GetPost
      rw [HR0.out]
      exact ⟨_, rfl, (by repeat' (first | with_reducible (first | refine bset ?_ ?_ | exact Below.refl _ _ | assumption | refine bdrewN ?_ _ | refine bdrew ?_ | refine balloc0 ?_ | refine balloc ?_ ?_ | (apply btrans0; rotate_left; assumption) | (apply btrans; rotate_left; assumption)) | exact Below.refl _ _ | assumption | (apply btrans0; rotate_left; assumption) | (apply btrans; rotate_left; assumption) | (simp; done) | omega | (simp; omega))), RInts.nil0 _ _⟩
    | true =>
      have HR0 : Hid (R = (l, 0)) := Lib.hid (by rw [HG.out, show num2 D = some l from hok])
      clear hok hri
      go_wp2
      go_ret2
      unfold GetPost
      rw [HR0.out]
      exact ⟨_, rfl, (by repeat' (first | with_reducible (first | refine bset ?_ ?_ | exact Below.refl _ _ | assumption | refine bdrewN ?_ _ | refine bdrew ?_ | refine balloc0 ?_ | refine balloc ?_ ?_ | (apply btrans0; rotate_left; assumption) | (apply btrans; rotate_left; assumption)) | exact Below.refl _ _ | assumption | (apply btrans0; rotate_left; assumption) | (apply btrans; rotate_left; assumption) | (simp; done) | omega | (simp; omega))), HRI.out.below' (by repeat' (first | with_reducible (first | refine bset ?_ ?_ | exact Below.refl _ _ | assumption | refine bdrewN ?_ _ | refine bdrew ?_ | refine balloc0 ?_ | refine balloc ?_ ?_ | (apply btrans0; rotate_left; assumption) | (apply btrans; rotate_left; assumption)) | exact Below.refl _ _ | assumption | (apply btrans0; rotate_left; assumption) | (apply btrans; rotate_left; assumption) | (simp; done) | omega | (simp; omega)))⟩
set_option maxRecDepth 100000 in
set_option maxHeartbeats 4000000 in
theorem get3_any (b : Bun) (u : Value) (w : World) (h : RBlks w w.heap.size u b.blocks) (hf : Fits b) :
    Calls Try.prog 31 #[.agg (bunC b u).toArray, .int .i64 3] w (GetPost (getS b 3) w) := by
  have HF := Lib.hid hf
  have HR := Lib.hid h
  obtain ⟨a, c, rfl, h1, h2, h3, h4⟩ := h
  clear h1 h2 h3 h4 hf
  obtain ⟨E, hE⟩ : ∃ q, chkE b = q := ⟨_, rfl⟩
  have HE := Lib.hid hE
  by_cases z : E = 0
  case neg =>
    have z' : (E != 0) = true := by rw [bne_iff_ne]; exact z
    rw [getS_bad (by rw [hE]; exact z)]
    clear hE z
    go_enter Try.func31, Try.ntmps31
    simp only [bunC]
    go_wp2_with fail
    refine (check_any b _ _ (HR.out.below' (by repeat' (first | with_reducible (first | refine bset ?_ ?_ | exact Below.refl _ _ | assumption | refine bdrewN ?_ _ | refine bdrew ?_ | refine balloc0 ?_ | refine balloc ?_ ?_ | (apply btrans0; rotate_left; assumption) | (apply btrans; rotate_left; assumption)) | exact Below.refl _ _ | assumption | (apply btrans0; rotate_left; assumption) | (apply btrans; rotate_left; assumption) | (simp; done) | omega | (simp; omega)))) HF.out).mono ?_
    rw [HE.out]
    rintro e w1 ⟨rfl, hb1⟩
    have hB1 : Below w.heap.size w w1 := (by repeat' (first | with_reducible (first | refine bset ?_ ?_ | exact Below.refl _ _ | assumption | refine bdrewN ?_ _ | refine bdrew ?_ | refine balloc0 ?_ | refine balloc ?_ ?_ | (apply btrans0; rotate_left; assumption) | (apply btrans; rotate_left; assumption)) | exact Below.refl _ _ | assumption | (apply btrans0; rotate_left; assumption) | (apply btrans; rotate_left; assumption) | (simp; done) | omega | (simp; omega)))
    have z1 : w.heap.size < w1.heap.size := by have := hb1.size; simp at this; omega
    have A1 : w1.heap[w.heap.size]? = some (.cells (bunC b (.slice a b.blocks.length c)).toArray 28 (0, 0)) := (hb1.block _ (by simp)).trans heap_new
    have ca := fun o => cellB A1 o
    simp only [bunC] at ca
    clear A1 hb1
    go_wp2
    go_ret2
    unfold GetPost
    exact ⟨_, rfl, (by repeat' (first | with_reducible (first | refine bset ?_ ?_ | exact Below.refl _ _ | assumption | refine bdrewN ?_ _ | refine bdrew ?_ | refine balloc0 ?_ | refine balloc ?_ ?_ | (apply btrans0; rotate_left; assumption) | (apply btrans; rotate_left; assumption)) | exact Below.refl _ _ | assumption | (apply btrans0; rotate_left; assumption) | (apply btrans; rotate_left; assumption) | (simp; done) | omega | (simp; omega))), RInts.nil0 _ _⟩
  subst z
  obtain ⟨⟨x, q⟩, hfi⟩ : ∃ q, findS b.blocks 3 = q := ⟨_, rfl⟩
  have HFI := Lib.hid hfi
  cases q with
  | false =>
    rw [getS_no hE hfi]
    clear hE hfi
    go_enter Try.func31, Try.ntmps31
    simp only [bunC]
    go_wp2_with fail
    refine (check_any b _ _ (HR.out.below' (by repeat' (first | with_reducible (first | refine bset ?_ ?_ | exact Below.refl _ _ | assumption | refine bdrewN ?_ _ | refine bdrew ?_ | refine balloc0 ?_ | refine balloc ?_ ?_ | (apply btrans0; rotate_left; assumption) | (apply btrans; rotate_left; assumption)) | exact Below.refl _ _ | assumption | (apply btrans0; rotate_left; assumption) | (apply btrans; rotate_left; assumption) | (simp; done) | omega | (simp; omega)))) HF.out).mono ?_
    rw [HE.out]
    rintro e w1 ⟨rfl, hb1⟩
    have hB1 : Below w.heap.size w w1 := (by repeat' (first | with_reducible (first | refine bset ?_ ?_ | exact Below.refl _ _ | assumption | refine bdrewN ?_ _ | refine bdrew ?_ | refine balloc0 ?_ | refine balloc ?_ ?_ | (apply btrans0; rotate_left; assumption) | (apply btrans; rotate_left; assumption)) | exact Below.refl _ _ | assumption | (apply btrans0; rotate_left; assumption) | (apply btrans; rotate_left; assumption) | (simp; done) | omega | (simp; omega)))
    have z1 : w.heap.size < w1.heap.size := by have := hb1.size; simp at this; omega
    have A1 : w1.heap[w.heap.size]? = some (.cells (bunC b (.slice a b.blocks.length c)).toArray 28 (0, 0)) := (hb1.block _ (by simp)).trans heap_new
    have ca := fun o => cellB A1 o
    simp only [bunC] at ca
    clear A1 hb1
    go_wp2_with fail
    refine (find_any b.blocks _ 3 _ (HR.out.below' (by repeat' (first | with_reducible (first | refine bset ?_ ?_ | exact Below.refl _ _ | assumption | refine bdrewN ?_ _ | refine bdrew ?_ | refine balloc0 ?_ | refine balloc ?_ ?_ | (apply btrans0; rotate_left; assumption) | (apply btrans; rotate_left; assumption)) | exact Below.refl _ _ | assumption | (apply btrans0; rotate_left; assumption) | (apply btrans; rotate_left; assumption) | (simp; done) | omega | (simp; omega))))).mono ?_
    rw [HFI.out]
    simp only
    rintro e w2 ⟨rfl, hb2⟩
    have hB2 : Below w.heap.size w w2 := (by repeat' (first | with_reducible (first | refine bset ?_ ?_ | exact Below.refl _ _ | assumption | refine bdrewN ?_ _ | refine bdrew ?_ | refine balloc0 ?_ | refine balloc ?_ ?_ | (apply btrans0; rotate_left; assumption) | (apply btrans; rotate_left; assumption)) | exact Below.refl _ _ | assumption | (apply btrans0; rotate_left; assumption) | (apply btrans; rotate_left; assumption) | (simp; done) | omega | (simp; omega)))
    clear hb2 ca
    go_wp2
    go_ret2
    unfold GetPost
    exact ⟨_, rfl, (by repeat' (first | with_reducible (first | refine bset ?_ ?_ | exact Below.refl _ _ | assumption | refine bdrewN ?_ _ | refine bdrew ?_ | refine balloc0 ?_ | refine balloc ?_ ?_ | (apply btrans0; rotate_left; assumption) | (apply btrans; rotate_left; assumption)) | exact Below.refl _ _ | assumption | (apply btrans0; rotate_left; assumption) | (apply btrans; rotate_left; assumption) | (simp; done) | omega | (simp; omega))), RInts.nil0 _ _⟩
  | true =>
    have hdl := (find_data hE hfi).2.2
    have hg := getS_yes hE hfi
    obtain ⟨xk, xf, D⟩ := x
    simp only at hdl hg
    rw [show dat 3 D = num3 D by (first | rfl | (unfold dat; simp))] at hg
    obtain ⟨R, hR⟩ : ∃ q, getS b 3 = q := ⟨_, rfl⟩
    rw [hR] at hg ⊢
    have HG := Lib.hid hg
    clear hE hfi hg hR
    go_enter Try.func31, Try.ntmps31
    simp only [bunC]
    go_wp2_with fail
    refine (check_any b _ _ (HR.out.below' (by repeat' (first | with_reducible (first | refine bset ?_ ?_ | exact Below.refl _ _ | assumption | refine bdrewN ?_ _ | refine bdrew ?_ | refine balloc0 ?_ | refine balloc ?_ ?_ | (apply btrans0; rotate_left; assumption) | (apply btrans; rotate_left; assumption)) | exact Below.refl _ _ | assumption | (apply btrans0; rotate_left; assumption) | (apply btrans; rotate_left; assumption) | (simp; done) | omega | (simp; omega)))) HF.out).mono ?_
    rw [HE.out]
    rintro e w1 ⟨rfl, hb1⟩
    have hB1 : Below w.heap.size w w1 := (by repeat' (first | with_reducible (first | refine bset ?_ ?_ | exact Below.refl _ _ | assumption | refine bdrewN ?_ _ | refine bdrew ?_ | refine balloc0 ?_ | refine balloc ?_ ?_ | (apply btrans0; rotate_left; assumption) | (apply btrans; rotate_left; assumption)) | exact Below.refl _ _ | assumption | (apply btrans0; rotate_left; assumption) | (apply btrans; rotate_left; assumption) | (simp; done) | omega | (simp; omega)))
    have z1 : w.heap.size < w1.heap.size := by have := hb1.size; simp at this; omega
    have A1 : w1.heap[w.heap.size]? = some (.cells (bunC b (.slice a b.blocks.length c)).toArray 28 (0, 0)) := (hb1.block _ (by simp)).trans heap_new
    have ca := fun o => cellB A1 o
    simp only [bunC] at ca
    clear A1 hb1
    go_wp2_with fail
    refine (find_any b.blocks _ 3 _ (HR.out.below' (by repeat' (first | with_reducible (first | refine bset ?_ ?_ | exact Below.refl _ _ | assumption | refine bdrewN ?_ _ | refine bdrew ?_ | refine balloc0 ?_ | refine balloc ?_ ?_ | (apply btrans0; rotate_left; assumption) | (apply btrans; rotate_left; assumption)) | exact Below.refl _ _ | assumption | (apply btrans0; rotate_left; assumption) | (apply btrans; rotate_left; assumption) | (simp; done) | omega | (simp; omega))))).mono ?_
    rw [HFI.out]
    simp only
    rintro e w2 ⟨rfl, hb2⟩
    have hB2 : Below w.heap.size w w2 := (by repeat' (first | with_reducible (first | refine bset ?_ ?_ | exact Below.refl _ _ | assumption | refine bdrewN ?_ _ | refine bdrew ?_ | refine balloc0 ?_ | refine balloc ?_ ?_ | (apply btrans0; rotate_left; assumption) | (apply btrans; rotate_left; assumption)) | exact Below.refl _ _ | assumption | (apply btrans0; rotate_left; assumption) | (apply btrans; rotate_left; assumption) | (simp; done) | omega | (simp; omega)))
    clear hb2 ca
    go_wp2_with fail
    refine (parsers_any _).mono ?_
    unfold tabP
    rintro e w3 ⟨rfl, hb3⟩
    have hB3 : Below w.heap.size w w3 := (by repeat' (first | with_reducible (first | refine bset ?_ ?_ | exact Below.refl _ _ | assumption | refine bdrewN ?_ _ | refine bdrew ?_ | refine balloc0 ?_ | refine balloc ?_ ?_ | (apply btrans0; rotate_left; assumption) | (apply btrans; rotate_left; assumption)) | exact Below.refl _ _ | assumption | (apply btrans0; rotate_left; assumption) | (apply btrans; rotate_left; assumption) | (simp; done) | omega | (simp; omega)))
    have z3 : w2.heap.size < w3.heap.size := by have := hb3.size; simp at this; omega
    have X3 : w3.heap[w2.heap.size]? = some (.cells #[.int .i64 xk, .int .i64 xf, .string (B D)] 56 (0, 0)) := (hb3.block _ (by simp)).trans heap_new
    clear hb3
    go_wp2
    have c4 : ∀ o, (w3.alloc (.cells tabP 80)).cell? ⟨w2.heap.size, o, none⟩ = #[Value.int .i64 xk, .int .i64 xf, .string (B D)][o]? := fun o => cellB ((Below.heap_alloc w3 (.cells tabP 80) _ z3).trans X3) o
    have d4 : ∀ o, (w3.alloc (.cells tabP 80)).cell? ⟨w3.heap.size, o, none⟩ = tabP[o]? := fun o => cellB heap_new o
    have zb4 : w3.heap.size < (w3.alloc (.cells tabP 80)).heap.size := by simp
    have za4 : w2.heap.size < (w3.alloc (.cells tabP 80)).heap.size := by simp; omega
    have hB4 : Below w.heap.size w (w3.alloc (.cells tabP 80)) := (by repeat' (first | with_reducible (first | refine bset ?_ ?_ | exact Below.refl _ _ | assumption | refine bdrewN ?_ _ | refine bdrew ?_ | refine balloc0 ?_ | refine balloc ?_ ?_ | (apply btrans0; rotate_left; assumption) | (apply btrans; rotate_left; assumption)) | exact Below.refl _ _ | assumption | (apply btrans0; rotate_left; assumption) | (apply btrans; rotate_left; assumption) | (simp; done) | omega | (simp; omega)))
    unfold tabP at d4 c4 zb4 za4 hB4
    clear X3
    generalize w3.alloc (.cells _ _) = w4 at *
    refine wp_region_plan (fun V => Below (w4).heap.size (w4) V) [0, 0, 0, 1, 0, 1, 3, 0, 0, 0, 0, 0] [0, 1, 2, 3, 4, 5, 6, 7, 8, 9, 10, 11] (by kernel_rfl) (by kernel_rfl) ?_ ?_
    case refine_1 => exact (by repeat' (first | with_reducible (first | refine bset ?_ ?_ | exact Below.refl _ _ | assumption | refine bdrewN ?_ _ | refine bdrew ?_ | refine balloc0 ?_ | refine balloc ?_ ?_ | (apply btrans0; rotate_left; assumption) | (apply btrans; rotate_left; assumption)) | exact Below.refl _ _ | assumption | (apply btrans0; rotate_left; assumption) | (apply btrans; rotate_left; assumption) | (simp; done) | omega | (simp; omega)))
    (iterate 6 (first | (refine plan_held rfl (by decide) (by rfl) (fun w1 hS => by (try (obtain ⟨_, _⟩ := bcell (hS rfl))); go_simp; rfl) ?_; simp only [Act.put, List.setIfInBounds_toArray, List.set_cons_zero, List.set_cons_succ]) | (refine plan_skip rfl (by decide) (by rfl) ?_; simp only [Act.put, List.setIfInBounds_toArray, List.set_cons_zero, List.set_cons_succ])))
    (refine plan_late rfl rfl (by rfl) (fun K hK => ?_); go_simp)
    refine (parse3_any D _ (by omega)).mono ?_
    unfold ParsePost
    rintro e wc31 ⟨v, l, ok, rfl, hbc31, hri, hok⟩
    (refine hK _ _ ?_; clear hK K; (try simp only [Act.put, List.setIfInBounds_toArray, List.set_cons_zero, List.set_cons_succ]))
    (iterate 5 (first | (refine plan_held rfl (by decide) (by rfl) (fun w1 hS => by (try (obtain ⟨_, _⟩ := bcell (hS rfl))); go_simp; rfl) ?_; simp only [Act.put, List.setIfInBounds_toArray, List.set_cons_zero, List.set_cons_succ]) | (refine plan_skip rfl (by decide) (by rfl) ?_; simp only [Act.put, List.setIfInBounds_toArray, List.set_cons_zero, List.set_cons_succ])))
    refine plan_done ?_
    have HRI := Lib.hid hri
    cases ok with
    | false =>
      have HR0 : Hid (R = ([], 11)) := Lib.hid (by rw [HG.out, show num3 D = none from hok])
      clear hok hri
      go_wp2
      go_ret2
      unfold GetPost
      rw [HR0.out]
      exact ⟨_, rfl, (by repeat' (first | with_reducible (first | refine bset ?_ ?_ | exact Below.refl _ _ | assumption | refine bdrewN ?_ _ | refine bdrew ?_ | refine balloc0 ?_ | refine balloc ?_ ?_ | (apply btrans0; rotate_left; assumption) | (apply btrans; rotate_left; assumption)) | exact Below.refl _ _ | assumption | (apply btrans0; rotate_left; assumption) | (apply btrans; rotate_left; assumption) | (simp; done) | omega | (simp; omega))), RInts.nil0 _ _⟩
    | true =>
      have HR0 : Hid (R = (l, 0)) := Lib.hid (by rw [HG.out, show num3 D = some l from hok])
      clear hok hri
      go_wp2
      go_ret2
      unfold GetPost
      rw [HR0.out]
      exact ⟨_, rfl, (by repeat' (first | with_reducible (first | refine bset ?_ ?_ | exact Below.refl _ _ | assumption | refine bdrewN ?_ _ | refine bdrew ?_ | refine balloc0 ?_ | refine balloc ?_ ?_ | (apply btrans0; rotate_left; assumption) | (apply btrans; rotate_left; assumption)) | exact Below.refl _ _ | assumption | (apply btrans0; rotate_left; assumption) | (apply btrans; rotate_left; assumption) | (simp; done) | omega | (simp; omega))), HRI.out.below' (by repeat' (first | with_reducible (first | refine bset ?_ ?_ | exact Below.refl _ _ | assumption | refine bdrewN ?_ _ | refine bdrew ?_ | refine balloc0 ?_ | refine balloc ?_ ?_ | (apply btrans0; rotate_left; assumption) | (apply btrans; rotate_left; assumption)) | exact Below.refl _ _ | assumption | (apply btrans0; rotate_left; assumption) | (apply btrans; rotate_left; assumption) | (simp; done) | omega | (simp; omega)))⟩
/-- the numbers of a block, as many as must be -/
theorem dat_len {k : Int} {s : List UInt8} {l : List Int} (h : dat k s = some l) : (k = 1 → l.length = 1) ∧ (k = 2 → l.length = 2) := by
  constructor
  · rintro rfl
    unfold dat num1 at h
    rw [if_pos rfl] at h
    split at h
    · cases h
    · rename_i l2 m h2
      split at h
      · injection h with h; subst h; exact (rdNs_len h2).1
      · cases h
  · rintro rfl
    unfold dat num2 at h
    rw [if_neg (by decide), if_pos rfl] at h
    split at h
    · cases h
    · rename_i l2 m h2
      split at h
      · injection h with h; subst h; exact (rdNs_len h2).1
      · cases h
theorem getS_ok {b : Bun} {k : Int} {l : List Int} {E : Int} (h : getS b k = (l, E)) : (E = 0 ∧ chkE b = 0 ∧ ∃ x, findS b.blocks k = (x, true) ∧ dat k x.data = some l) ∨ (E ≠ 0 ∧ l = [] ∧ (E = 1 ∧ chkE b ≠ 0 ∨ E = 7 ∧ chkE b = 0 ∧ (findS b.blocks k).2 = false ∨ E = 11 ∧ chkE b = 0 ∧ ∃ x, findS b.blocks k = (x, true) ∧ dat k x.data = none)) := by
  by_cases z : chkE b = 0
  case neg => rw [getS_bad z] at h; simp only [Prod.mk.injEq] at h; obtain ⟨rfl, rfl⟩ := h; exact .inr ⟨by decide, rfl, .inl ⟨rfl, z⟩⟩
  obtain ⟨⟨x, q⟩, hf⟩ : ∃ q, findS b.blocks k = q := ⟨_, rfl⟩
  cases q with
  | false => rw [getS_no z hf] at h; simp only [Prod.mk.injEq] at h; obtain ⟨rfl, rfl⟩ := h; exact .inr ⟨by decide, rfl, .inr (.inl ⟨rfl, z, by rw [hf]⟩)⟩
  | true =>
    rw [getS_yes z hf] at h
    cases hd : dat k x.data with
    | none => rw [hd] at h; simp only [Prod.mk.injEq] at h; obtain ⟨rfl, rfl⟩ := h; exact .inr ⟨by decide, rfl, .inr (.inr ⟨rfl, z, x, hf, hd⟩)⟩
    | some l2 => rw [hd] at h; simp only [Prod.mk.injEq] at h; obtain ⟨rfl, rfl⟩ := h; exact .inl ⟨rfl, z, x, hf, hd⟩
def ageS (b : Bun) : Int × Int := ((getS b 1).1.getD 0 0, (getS b 1).2)
def hopS (b : Bun) : Int × Int × Int := ((getS b 2).1.getD 0 0, (getS b 2).1.getD 1 0, (getS b 2).2)
set_option maxRecDepth 100000 in
set_option maxHeartbeats 4000000 in
theorem visited_any (b : Bun) (u : Value) (w : World) (h : RBlks w w.heap.size u b.blocks) (hf : Fits b) :
    Calls Try.prog 15 #[.agg (bunC b u).toArray] w (GetPost (getS b 3) w) := by
  have HF := Lib.hid hf
  have HR := Lib.hid h
  obtain ⟨a, c, rfl, h1, h2, h3, h4⟩ := h
  clear h1 h2 h3 h4 hf
  obtain ⟨⟨l, E⟩, hg⟩ : ∃ q, getS b 3 = q := ⟨_, rfl⟩
  have HG := Lib.hid hg
  rw [hg]
  clear hg
  go_enter Try.func15, Try.ntmps15
  simp only [bunC]
  go_wp2_with fail
  refine (get3_any b _ _ (HR.out.below' (by repeat' (first | with_reducible (first | refine bset ?_ ?_ | exact Below.refl _ _ | assumption | refine bdrewN ?_ _ | refine bdrew ?_ | refine balloc0 ?_ | refine balloc ?_ ?_ | (apply btrans0; rotate_left; assumption) | (apply btrans; rotate_left; assumption)) | exact Below.refl _ _ | assumption | (apply btrans0; rotate_left; assumption) | (apply btrans; rotate_left; assumption) | (simp; done) | omega | (simp; omega)))) HF.out).mono ?_
  unfold GetPost
  rw [HG.out]
  simp only
  rintro e w1 ⟨v, rfl, hb1, hri⟩
  have hB1 : Below w.heap.size w w1 := (by repeat' (first | with_reducible (first | refine bset ?_ ?_ | exact Below.refl _ _ | assumption | refine bdrewN ?_ _ | refine bdrew ?_ | refine balloc0 ?_ | refine balloc ?_ ?_ | (apply btrans0; rotate_left; assumption) | (apply btrans; rotate_left; assumption)) | exact Below.refl _ _ | assumption | (apply btrans0; rotate_left; assumption) | (apply btrans; rotate_left; assumption) | (simp; done) | omega | (simp; omega)))
  have HRI := Lib.hid hri
  clear hri
  go_wp2
  go_ret2
  unfold GetPost
  exact ⟨_, rfl, (by repeat' (first | with_reducible (first | refine bset ?_ ?_ | exact Below.refl _ _ | assumption | refine bdrewN ?_ _ | refine bdrew ?_ | refine balloc0 ?_ | refine balloc ?_ ?_ | (apply btrans0; rotate_left; assumption) | (apply btrans; rotate_left; assumption)) | exact Below.refl _ _ | assumption | (apply btrans0; rotate_left; assumption) | (apply btrans; rotate_left; assumption) | (simp; done) | omega | (simp; omega))), HRI.out.below' (by repeat' (first | with_reducible (first | refine bset ?_ ?_ | exact Below.refl _ _ | assumption | refine bdrewN ?_ _ | refine bdrew ?_ | refine balloc0 ?_ | refine balloc ?_ ?_ | (apply btrans0; rotate_left; assumption) | (apply btrans; rotate_left; assumption)) | exact Below.refl _ _ | assumption | (apply btrans0; rotate_left; assumption) | (apply btrans; rotate_left; assumption) | (simp; done) | omega | (simp; omega)))⟩
set_option maxRecDepth 100000 in
set_option maxHeartbeats 4000000 in
theorem age_any (b : Bun) (u : Value) (w : World) (h : RBlks w w.heap.size u b.blocks) (hf : Fits b) :
    Calls Try.prog 11 #[.agg (bunC b u).toArray] w fun e w' => e = .returned (.tuple #[.int .i64 (ageS b).1, .int .i64 (ageS b).2]) ∧ Below w.heap.size w w' := by
  have HF := Lib.hid hf
  have HR := Lib.hid h
  obtain ⟨a, c, rfl, h1, h2, h3, h4⟩ := h
  clear h1 h2 h3 h4 hf
  obtain ⟨⟨l, E⟩, hg⟩ : ∃ q, getS b 1 = q := ⟨_, rfl⟩
  have HG := Lib.hid hg
  unfold ageS
  rw [hg]
  simp only
  have hgs := getS_ok hg
  clear hg
  by_cases z : E = 0
  case neg =>
    have z' : (E != 0) = true := by rw [bne_iff_ne]; exact z
    obtain rfl : l = [] := by
      rcases hgs with ⟨h, _⟩ | ⟨_, h, _⟩
      · exact absurd h z
      · exact h
    clear hgs z
    go_enter Try.func11, Try.ntmps11
    simp only [bunC]
    go_wp2_with fail
    refine (get1_any b _ _ (HR.out.below' (by repeat' (first | with_reducible (first | refine bset ?_ ?_ | exact Below.refl _ _ | assumption | refine bdrewN ?_ _ | refine bdrew ?_ | refine balloc0 ?_ | refine balloc ?_ ?_ | (apply btrans0; rotate_left; assumption) | (apply btrans; rotate_left; assumption)) | exact Below.refl _ _ | assumption | (apply btrans0; rotate_left; assumption) | (apply btrans; rotate_left; assumption) | (simp; done) | omega | (simp; omega)))) HF.out).mono ?_
    unfold GetPost
    rw [HG.out]
    simp only
    rintro e w1 ⟨v, rfl, hb1, hri⟩
    have hB1 : Below w.heap.size w w1 := (by repeat' (first | with_reducible (first | refine bset ?_ ?_ | exact Below.refl _ _ | assumption | refine bdrewN ?_ _ | refine bdrew ?_ | refine balloc0 ?_ | refine balloc ?_ ?_ | (apply btrans0; rotate_left; assumption) | (apply btrans; rotate_left; assumption)) | exact Below.refl _ _ | assumption | (apply btrans0; rotate_left; assumption) | (apply btrans; rotate_left; assumption) | (simp; done) | omega | (simp; omega)))
    clear hri
    go_wp2
    go_ret2
    exact ⟨rfl, (by repeat' (first | with_reducible (first | refine bset ?_ ?_ | exact Below.refl _ _ | assumption | refine bdrewN ?_ _ | refine bdrew ?_ | refine balloc0 ?_ | refine balloc ?_ ?_ | (apply btrans0; rotate_left; assumption) | (apply btrans; rotate_left; assumption)) | exact Below.refl _ _ | assumption | (apply btrans0; rotate_left; assumption) | (apply btrans; rotate_left; assumption) | (simp; done) | omega | (simp; omega)))⟩
  subst z
  obtain ⟨n, rfl⟩ : ∃ n, l = [n] := by
    rcases hgs with ⟨_, _, x, _, h⟩ | ⟨h, _⟩
    · exact List.length_eq_one_iff.1 ((dat_len h).1 rfl)
    · exact absurd rfl h
  clear hgs
  go_enter Try.func11, Try.ntmps11
  simp only [bunC]
  go_wp2_with fail
  refine (get1_any b _ _ (HR.out.below' (by repeat' (first | with_reducible (first | refine bset ?_ ?_ | exact Below.refl _ _ | assumption | refine bdrewN ?_ _ | refine bdrew ?_ | refine balloc0 ?_ | refine balloc ?_ ?_ | (apply btrans0; rotate_left; assumption) | (apply btrans; rotate_left; assumption)) | exact Below.refl _ _ | assumption | (apply btrans0; rotate_left; assumption) | (apply btrans; rotate_left; assumption) | (simp; done) | omega | (simp; omega)))) HF.out).mono ?_
  unfold GetPost
  rw [HG.out]
  simp only
  rintro e w1 ⟨v, rfl, hb1, hri⟩
  have hB1 : Below w.heap.size w w1 := (by repeat' (first | with_reducible (first | refine bset ?_ ?_ | exact Below.refl _ _ | assumption | refine bdrewN ?_ _ | refine bdrew ?_ | refine balloc0 ?_ | refine balloc ?_ ?_ | (apply btrans0; rotate_left; assumption) | (apply btrans; rotate_left; assumption)) | exact Below.refl _ _ | assumption | (apply btrans0; rotate_left; assumption) | (apply btrans; rotate_left; assumption) | (simp; done) | omega | (simp; omega)))
  obtain ⟨a1, c1, rfl, q1, q2, q3, q4⟩ := hri
  obtain ⟨b1, o1, rfl, q5, q6⟩ := q4 (by simp)
  have cn : w1.cell? ⟨b1, o1, none⟩ = some (.int .i64 n) := q6 0 n rfl
  clear q1 q2 q3 q4 q6
  go_wp2
  go_ret2
  exact ⟨rfl, (by repeat' (first | with_reducible (first | refine bset ?_ ?_ | exact Below.refl _ _ | assumption | refine bdrewN ?_ _ | refine bdrew ?_ | refine balloc0 ?_ | refine balloc ?_ ?_ | (apply btrans0; rotate_left; assumption) | (apply btrans; rotate_left; assumption)) | exact Below.refl _ _ | assumption | (apply btrans0; rotate_left; assumption) | (apply btrans; rotate_left; assumption) | (simp; done) | omega | (simp; omega)))⟩
set_option maxRecDepth 100000 in
set_option maxHeartbeats 4000000 in
theorem hops_any (b : Bun) (u : Value) (w : World) (h : RBlks w w.heap.size u b.blocks) (hf : Fits b) :
    Calls Try.prog 13 #[.agg (bunC b u).toArray] w fun e w' => e = .returned (.tuple #[.int .i64 (hopS b).1, .int .i64 (hopS b).2.1, .int .i64 (hopS b).2.2]) ∧ Below w.heap.size w w' := by
  have HF := Lib.hid hf
  have HR := Lib.hid h
  obtain ⟨a, c, rfl, h1, h2, h3, h4⟩ := h
  clear h1 h2 h3 h4 hf
  obtain ⟨⟨l, E⟩, hg⟩ : ∃ q, getS b 2 = q := ⟨_, rfl⟩
  have HG := Lib.hid hg
  unfold hopS
  rw [hg]
  simp only
  have hgs := getS_ok hg
  clear hg
  by_cases z : E = 0
  case neg =>
    have z' : (E != 0) = true := by rw [bne_iff_ne]; exact z
    obtain rfl : l = [] := by
      rcases hgs with ⟨h, _⟩ | ⟨_, h, _⟩
      · exact absurd h z
      · exact h
    clear hgs z
    go_enter Try.func13, Try.ntmps13
    simp only [bunC]
    go_wp2_with fail
    refine (get2_any b _ _ (HR.out.below' (by repeat' (first | with_reducible (first | refine bset ?_ ?_ | exact Below.refl _ _ | assumption | refine bdrewN ?_ _ | refine bdrew ?_ | refine balloc0 ?_ | refine balloc ?_ ?_ | (apply btrans0; rotate_left; assumption) | (apply btrans; rotate_left; assumption)) | exact Below.refl _ _ | assumption | (apply btrans0; rotate_left; assumption) | (apply btrans; rotate_left; assumption) | (simp; done) | omega | (simp; omega)))) HF.out).mono ?_
    unfold GetPost
    rw [HG.out]
    simp only
    rintro e w1 ⟨v, rfl, hb1, hri⟩
    have hB1 : Below w.heap.size w w1 := (by repeat' (first | with_reducible (first | refine bset ?_ ?_ | exact Below.refl _ _ | assumption | refine bdrewN ?_ _ | refine bdrew ?_ | refine balloc0 ?_ | refine balloc ?_ ?_ | (apply btrans0; rotate_left; assumption) | (apply btrans; rotate_left; assumption)) | exact Below.refl _ _ | assumption | (apply btrans0; rotate_left; assumption) | (apply btrans; rotate_left; assumption) | (simp; done) | omega | (simp; omega)))
    clear hri
    go_wp2
    go_ret3
    exact ⟨rfl, (by repeat' (first | with_reducible (first | refine bset ?_ ?_ | exact Below.refl _ _ | assumption | refine bdrewN ?_ _ | refine bdrew ?_ | refine balloc0 ?_ | refine balloc ?_ ?_ | (apply btrans0; rotate_left; assumption) | (apply btrans; rotate_left; assumption)) | exact Below.refl _ _ | assumption | (apply btrans0; rotate_left; assumption) | (apply btrans; rotate_left; assumption) | (simp; done) | omega | (simp; omega)))⟩
  subst z
  obtain ⟨n, m, rfl⟩ : ∃ n m, l = [n, m] := by
    rcases hgs with ⟨_, _, x, _, h⟩ | ⟨h, _⟩
    · have := (dat_len h).2 rfl
      match l, this with
      | [n, m], _ => exact ⟨n, m, rfl⟩
    · exact absurd rfl h
  clear hgs
  go_enter Try.func13, Try.ntmps13
  simp only [bunC]
  go_wp2_with fail
  refine (get2_any b _ _ (HR.out.below' (by repeat' (first | with_reducible (first | refine bset ?_ ?_ | exact Below.refl _ _ | assumption | refine bdrewN ?_ _ | refine bdrew ?_ | refine balloc0 ?_ | refine balloc ?_ ?_ | (apply btrans0; rotate_left; assumption) | (apply btrans; rotate_left; assumption)) | exact Below.refl _ _ | assumption | (apply btrans0; rotate_left; assumption) | (apply btrans; rotate_left; assumption) | (simp; done) | omega | (simp; omega)))) HF.out).mono ?_
  unfold GetPost
  rw [HG.out]
  simp only
  rintro e w1 ⟨v, rfl, hb1, hri⟩
  have hB1 : Below w.heap.size w w1 := (by repeat' (first | with_reducible (first | refine bset ?_ ?_ | exact Below.refl _ _ | assumption | refine bdrewN ?_ _ | refine bdrew ?_ | refine balloc0 ?_ | refine balloc ?_ ?_ | (apply btrans0; rotate_left; assumption) | (apply btrans; rotate_left; assumption)) | exact Below.refl _ _ | assumption | (apply btrans0; rotate_left; assumption) | (apply btrans; rotate_left; assumption) | (simp; done) | omega | (simp; omega)))
  obtain ⟨a1, c1, rfl, q1, q2, q3, q4⟩ := hri
  obtain ⟨b1, o1, rfl, q5, q6⟩ := q4 (by simp)
  have cn : w1.cell? ⟨b1, o1, none⟩ = some (.int .i64 n) := q6 0 n rfl
  have cm : w1.cell? ⟨b1, o1 + 1, none⟩ = some (.int .i64 m) := q6 1 m rfl
  clear q1 q2 q3 q4 q6
  go_wp2
  refine wp_region_plan (fun V => Below (w1).heap.size (w1) V) [0, 0, 1, 0, 0, 1, 0, 0, 0] [0, 1, 2, 3, 4, 5, 6, 7, 8] (by kernel_rfl) (by kernel_rfl) ?_ ?_
  case refine_1 => exact (by repeat' (first | with_reducible (first | refine bset ?_ ?_ | exact Below.refl _ _ | assumption | refine bdrewN ?_ _ | refine bdrew ?_ | refine balloc0 ?_ | refine balloc ?_ ?_ | (apply btrans0; rotate_left; assumption) | (apply btrans; rotate_left; assumption)) | exact Below.refl _ _ | assumption | (apply btrans0; rotate_left; assumption) | (apply btrans; rotate_left; assumption) | (simp; done) | omega | (simp; omega)))
  (iterate 9 (first | (refine plan_held rfl (by decide) (by rfl) (fun w1 hS => by (try (obtain ⟨_, _⟩ := bcell (hS rfl))); go_simp; rfl) ?_; simp only [Act.put, List.setIfInBounds_toArray, List.set_cons_zero, List.set_cons_succ]) | (refine plan_skip rfl (by decide) (by rfl) ?_; simp only [Act.put, List.setIfInBounds_toArray, List.set_cons_zero, List.set_cons_succ])))
  refine plan_done ?_
  go_wp2
  go_ret3
  exact ⟨rfl, (by repeat' (first | with_reducible (first | refine bset ?_ ?_ | exact Below.refl _ _ | assumption | refine bdrewN ?_ _ | refine bdrew ?_ | refine balloc0 ?_ | refine balloc ?_ ?_ | (apply btrans0; rotate_left; assumption) | (apply btrans; rotate_left; assumption)) | exact Below.refl _ _ | assumption | (apply btrans0; rotate_left; assumption) | (apply btrans; rotate_left; assumption) | (simp; done) | omega | (simp; omega)))⟩
end Go.Proofs.Ythgokfceakbjlaa
