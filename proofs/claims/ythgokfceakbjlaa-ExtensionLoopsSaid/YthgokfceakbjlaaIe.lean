/- Layer 14, the reference: Visited, SetAge, SetHops, visit, Visit. -/
import Derived.Test.YthgokfceakbjlaaIc
import Derived.Test.YthgokfceakbjlaaId
import Derived.Test.YthgokfceakbjlaaIb
set_option linter.unusedVariables false
set_option linter.unusedSimpArgs false
namespace Go.Proofs.Ythgokfceakbjlaa
open Go Go.RowKit
attribute [local go_sem] B_getElem B_size B_app B_extract B_get B_toList

set_option maxRecDepth 100000 in
set_option maxHeartbeats 4000000 in
theorem rvisited_any (b : Bun) (u : Value) (w : World) (h : RBlks w w.heap.size u b.blocks) (hf : Fits b) :
    Calls Try.prog 16 #[.agg (bunC b u).toArray] w (GetPost (getS b 3) w) := by
  have HF := Lib.hid hf
  have HR := Lib.hid h
  obtain ⟨a, c, rfl, h1, h2, h3, h4⟩ := h
  clear h1 h2 h3 h4 hf
  obtain ⟨E, hE⟩ : ∃ q, chkE b = q := ⟨_, rfl⟩
  have HE := Lib.hid hE
  by_cases z : E = 0
  case neg =>
    have z' : (E != 0) = true := by rw [bne_iff_ne]; exact z
    rw [getS_bad (by rw [hE]; exact z)]
    clear hE z
    go_enter Try.func16, Try.ntmps16
    simp only [bunC]
    go_wp2_with fail
    refine (rcheck_any b _ _ (HR.out.below' (by repeat' (first | with_reducible (first | refine bset ?_ ?_ | exact Below.refl _ _ | assumption | refine bdrewN ?_ _ | refine bdrew ?_ | refine balloc0 ?_ | refine balloc ?_ ?_ | (apply btrans0; rotate_left; assumption) | (apply btrans; rotate_left; assumption)) | exact Below.refl _ _ | assumption | (apply btrans0; rotate_left; assumption) | (apply btrans; rotate_left; assumption) | (simp; done) | omega | (simp; omega)))) HF.out).mono ?_
    rw [HE.out]
    rintro e w1 ⟨rfl, hb1⟩
    have hB1 : Below w.heap.size w w1 := (by repeat' (first | with_reducible (first | refine bset ?_ ?_ | exact Below.refl _ _ | assumption | refine bdrewN ?_ _ | refine bdrew ?_ | refine balloc0 ?_ | refine balloc ?_ ?_ | (apply btrans0; rotate_left; assumption) | (apply btrans; rotate_left; assumption)) | exact Below.refl _ _ | assumption | (apply btrans0; rotate_left; assumption) | (apply btrans; rotate_left; assumption) | (simp; done) | omega | (simp; omega)))
    have z1 : w.heap.size < w1.heap.size := by have := hb1.size; simp at this; omega
    have A1 : w1.heap[w.heap.size]? = some (.cells (bunC b (.slice a b.blocks.length c)).toArray 28 (0, 0)) := (hb1.block _ (by simp)).trans heap_new
    have ca := fun o => cellB A1 o
    simp only [bunC] at ca
    clear A1 hb1
    go_wp2_with fail
    go_ret2
    unfold GetPost
    exact ⟨_, rfl, (by repeat' (first | with_reducible (first | refine bset ?_ ?_ | exact Below.refl _ _ | assumption | refine bdrewN ?_ _ | refine bdrew ?_ | refine balloc0 ?_ | refine balloc ?_ ?_ | (apply btrans0; rotate_left; assumption) | (apply btrans; rotate_left; assumption)) | exact Below.refl _ _ | assumption | (apply btrans0; rotate_left; assumption) | (apply btrans; rotate_left; assumption) | (simp; done) | omega | (simp; omega))), RInts.lit0 _ _ _⟩
  subst z
  clear hE
  go_enter Try.func16, Try.ntmps16
  simp only [bunC]
  go_wp2_with fail
  refine (rcheck_any b _ _ (HR.out.below' (by repeat' (first | with_reducible (first | refine bset ?_ ?_ | exact Below.refl _ _ | assumption | refine bdrewN ?_ _ | refine bdrew ?_ | refine balloc0 ?_ | refine balloc ?_ ?_ | (apply btrans0; rotate_left; assumption) | (apply btrans; rotate_left; assumption)) | exact Below.refl _ _ | assumption | (apply btrans0; rotate_left; assumption) | (apply btrans; rotate_left; assumption) | (simp; done) | omega | (simp; omega)))) HF.out).mono ?_
  rw [HE.out]
  rintro e w1 ⟨rfl, hb1⟩
  have hB1 : Below w.heap.size w w1 := (by repeat' (first | with_reducible (first | refine bset ?_ ?_ | exact Below.refl _ _ | assumption | refine bdrewN ?_ _ | refine bdrew ?_ | refine balloc0 ?_ | refine balloc ?_ ?_ | (apply btrans0; rotate_left; assumption) | (apply btrans; rotate_left; assumption)) | exact Below.refl _ _ | assumption | (apply btrans0; rotate_left; assumption) | (apply btrans; rotate_left; assumption) | (simp; done) | omega | (simp; omega)))
  have z1 : w.heap.size < w1.heap.size := by have := hb1.size; simp at this; omega
  have A1 : w1.heap[w.heap.size]? = some (.cells (bunC b (.slice a b.blocks.length c)).toArray 28 (0, 0)) := (hb1.block _ (by simp)).trans heap_new
  have ca := fun o => cellB A1 o
  simp only [bunC] at ca
  clear A1 hb1
  go_wp2_with fail
  refine (rvis0_any b _ _ (HR.out.below' (by repeat' (first | with_reducible (first | refine bset ?_ ?_ | exact Below.refl _ _ | assumption | refine bdrewN ?_ _ | refine bdrew ?_ | refine balloc0 ?_ | refine balloc ?_ ?_ | (apply btrans0; rotate_left; assumption) | (apply btrans; rotate_left; assumption)) | exact Below.refl _ _ | assumption | (apply btrans0; rotate_left; assumption) | (apply btrans; rotate_left; assumption) | (simp; done) | omega | (simp; omega)))) HE.out).mono ?_
  unfold GetPost
  rintro e w2 ⟨v, rfl, hb2, hri⟩
  have HRI := Lib.hid hri
  clear hri
  go_wp2_with fail
  go_ret2
  unfold GetPost
  exact ⟨v, rfl, (by repeat' (first | with_reducible (first | refine bset ?_ ?_ | exact Below.refl _ _ | assumption | refine bdrewN ?_ _ | refine bdrew ?_ | refine balloc0 ?_ | refine balloc ?_ ?_ | (apply btrans0; rotate_left; assumption) | (apply btrans; rotate_left; assumption)) | exact Below.refl _ _ | assumption | (apply btrans0; rotate_left; assumption) | (apply btrans; rotate_left; assumption) | (simp; done) | omega | (simp; omega))), HRI.out⟩
set_option maxRecDepth 100000 in
set_option maxHeartbeats 8000000 in
theorem rsetAge_any (b : Bun) (u : Value) (x : Int) (w : World) (h : RBlks w w.heap.size u b.blocks) (hf : Fits b) :
    Calls Try.prog 19 #[.agg (bunC b u).toArray, .int .i64 x] w (FwdPost (setAgeS b x) w) := by
  have HF := Lib.hid hf
  have HR := Lib.hid h
  obtain ⟨a, c, rfl, h1, h2, h3, h4⟩ := h
  clear h1 h2 h3 h4 hf
  obtain ⟨E, hE⟩ : ∃ q, chkE b = q := ⟨_, rfl⟩
  have HE := Lib.hid hE
  by_cases z : E = 0
  case neg =>
    have z' : (E != 0) = true := by rw [bne_iff_ne]; exact z
    rw [show setAgeS b x = (zBun, 1) from if_pos (by rw [hE]; exact z)]
    clear hE z
    go_enter Try.func19, Try.ntmps19
    simp only [bunC]
    go_wp2_with fail
    refine (rcheck_any b _ _ (HR.out.below' (by repeat' (first | with_reducible (first | refine bset ?_ ?_ | exact Below.refl _ _ | assumption | refine bdrewN ?_ _ | refine bdrew ?_ | refine balloc0 ?_ | refine balloc ?_ ?_ | (apply btrans0; rotate_left; assumption) | (apply btrans; rotate_left; assumption)) | exact Below.refl _ _ | assumption | (apply btrans0; rotate_left; assumption) | (apply btrans; rotate_left; assumption) | (simp; done) | omega | (simp; omega)))) HF.out).mono ?_
    rw [HE.out]
    rintro e w1 ⟨rfl, hb1⟩
    have hB1 : Below w.heap.size w w1 := (by repeat' (first | with_reducible (first | refine bset ?_ ?_ | exact Below.refl _ _ | assumption | refine bdrewN ?_ _ | refine bdrew ?_ | refine balloc0 ?_ | refine balloc ?_ ?_ | (apply btrans0; rotate_left; assumption) | (apply btrans; rotate_left; assumption)) | exact Below.refl _ _ | assumption | (apply btrans0; rotate_left; assumption) | (apply btrans; rotate_left; assumption) | (simp; done) | omega | (simp; omega)))
    have z1 : w.heap.size + 1 < w1.heap.size := by have := hb1.size; (try simp at this); omega
    have z1a : w.heap.size < w1.heap.size := by omega
    have A1 : w1.heap[w.heap.size]? = some (.cells (bunC b (.slice a b.blocks.length c)).toArray 28 (0, 0)) := (hb1.block _ (by first | omega | (simp; done) | (simp; omega))).trans (by repeat (first | exact heap_new' (by first | rfl | (simp; done)) | refine (Below.heap_alloc _ _ _ (by first | (simp; done) | (simp; omega))).trans ?_))
    have R1 : w1.heap[w.heap.size + 1]? = some (.cells #[.int .i64 0, .int .i64 0, .int .i64 0, .int .i64 0, .int .i64 0, .int .i64 0, .int .i64 0, .int .i64 0, .int .i64 0, .int .i64 0, .slice none 0 0, .string ⟨#[]⟩] 28 (0, 0)) := (hb1.block _ (by simp)).trans (by repeat (first | exact heap_new' (by first | rfl | (simp; done)) | refine (Below.heap_alloc _ _ _ (by first | (simp; done) | (simp; omega))).trans ?_))
    have ca := fun o => cellB A1 o
    have cr := fun o => cellB R1 o
    have fr := fun o => frozenB R1 o
    simp only [bunC] at ca
    have HA1 := Lib.hid A1
    have HR1 := Lib.hid R1
    clear A1 R1 hb1
    go_wp2_with fail
    refine bodyPost_ret (v := .tuple #[.agg #[.int .i64 0, .int .i64 0, .int .i64 0, .int .i64 0, .int .i64 0, .int .i64 0, .int .i64 0, .int .i64 0, .int .i64 0, .int .i64 0, .slice none 0 0, .string ⟨#[]⟩], .int .i64 1]) (by simp [results, Try.results19, go_sem, World.cell?_setCell_same', cr, z1]) rfl ?_
    unfold FwdPost
    exact ⟨_, rfl, RBlks.nil _ _, (by repeat' (first | with_reducible (first | refine bset ?_ ?_ | exact Below.refl _ _ | assumption | refine bdrewN ?_ _ | refine bdrew ?_ | refine balloc0 ?_ | refine balloc ?_ ?_ | (apply btrans0; rotate_left; assumption) | (apply btrans; rotate_left; assumption)) | exact Below.refl _ _ | assumption | (apply btrans0; rotate_left; assumption) | (apply btrans; rotate_left; assumption) | (simp; done) | omega | (simp; omega)))⟩
  subst z
  by_cases r : x < 0 ∨ 1099511627776 < x
  · rw [show setAgeS b x = (zBun, 2) by unfold setAgeS; rw [if_neg (by simp [hE]), if_pos r]]
    clear hE
    by_cases r1 : x < 0
    · clear r
      go_enter Try.func19, Try.ntmps19
      simp only [bunC]
      go_wp2_with fail
      refine (rcheck_any b _ _ (HR.out.below' (by repeat' (first | with_reducible (first | refine bset ?_ ?_ | exact Below.refl _ _ | assumption | refine bdrewN ?_ _ | refine bdrew ?_ | refine balloc0 ?_ | refine balloc ?_ ?_ | (apply btrans0; rotate_left; assumption) | (apply btrans; rotate_left; assumption)) | exact Below.refl _ _ | assumption | (apply btrans0; rotate_left; assumption) | (apply btrans; rotate_left; assumption) | (simp; done) | omega | (simp; omega)))) HF.out).mono ?_
      rw [HE.out]
      rintro e w1 ⟨rfl, hb1⟩
      have hB1 : Below w.heap.size w w1 := (by repeat' (first | with_reducible (first | refine bset ?_ ?_ | exact Below.refl _ _ | assumption | refine bdrewN ?_ _ | refine bdrew ?_ | refine balloc0 ?_ | refine balloc ?_ ?_ | (apply btrans0; rotate_left; assumption) | (apply btrans; rotate_left; assumption)) | exact Below.refl _ _ | assumption | (apply btrans0; rotate_left; assumption) | (apply btrans; rotate_left; assumption) | (simp; done) | omega | (simp; omega)))
      have z1 : w.heap.size + 1 < w1.heap.size := by have := hb1.size; (try simp at this); omega
      have z1a : w.heap.size < w1.heap.size := by omega
      have A1 : w1.heap[w.heap.size]? = some (.cells (bunC b (.slice a b.blocks.length c)).toArray 28 (0, 0)) := (hb1.block _ (by first | omega | (simp; done) | (simp; omega))).trans (by repeat (first | exact heap_new' (by first | rfl | (simp; done)) | refine (Below.heap_alloc _ _ _ (by first | (simp; done) | (simp; omega))).trans ?_))
      have R1 : w1.heap[w.heap.size + 1]? = some (.cells #[.int .i64 0, .int .i64 0, .int .i64 0, .int .i64 0, .int .i64 0, .int .i64 0, .int .i64 0, .int .i64 0, .int .i64 0, .int .i64 0, .slice none 0 0, .string ⟨#[]⟩] 28 (0, 0)) := (hb1.block _ (by simp)).trans (by repeat (first | exact heap_new' (by first | rfl | (simp; done)) | refine (Below.heap_alloc _ _ _ (by first | (simp; done) | (simp; omega))).trans ?_))
      have ca := fun o => cellB A1 o
      have cr := fun o => cellB R1 o
      have fr := fun o => frozenB R1 o
      simp only [bunC] at ca
      have HA1 := Lib.hid A1
      have HR1 := Lib.hid R1
      clear A1 R1 hb1
      go_wp2_with fail
      refine bodyPost_ret (v := .tuple #[.agg #[.int .i64 0, .int .i64 0, .int .i64 0, .int .i64 0, .int .i64 0, .int .i64 0, .int .i64 0, .int .i64 0, .int .i64 0, .int .i64 0, .slice none 0 0, .string ⟨#[]⟩], .int .i64 2]) (by simp [results, Try.results19, go_sem, World.cell?_setCell_same', cr, z1]) rfl ?_
      unfold FwdPost
      exact ⟨_, rfl, RBlks.nil _ _, (by repeat' (first | with_reducible (first | refine bset ?_ ?_ | exact Below.refl _ _ | assumption | refine bdrewN ?_ _ | refine bdrew ?_ | refine balloc0 ?_ | refine balloc ?_ ?_ | (apply btrans0; rotate_left; assumption) | (apply btrans; rotate_left; assumption)) | exact Below.refl _ _ | assumption | (apply btrans0; rotate_left; assumption) | (apply btrans; rotate_left; assumption) | (simp; done) | omega | (simp; omega)))⟩
    · have r2 : 1099511627776 < x := by omega
      clear r
      go_enter Try.func19, Try.ntmps19
      simp only [bunC]
      go_wp2_with fail
      refine (rcheck_any b _ _ (HR.out.below' (by repeat' (first | with_reducible (first | refine bset ?_ ?_ | exact Below.refl _ _ | assumption | refine bdrewN ?_ _ | refine bdrew ?_ | refine balloc0 ?_ | refine balloc ?_ ?_ | (apply btrans0; rotate_left; assumption) | (apply btrans; rotate_left; assumption)) | exact Below.refl _ _ | assumption | (apply btrans0; rotate_left; assumption) | (apply btrans; rotate_left; assumption) | (simp; done) | omega | (simp; omega)))) HF.out).mono ?_
      rw [HE.out]
      rintro e w1 ⟨rfl, hb1⟩
      have hB1 : Below w.heap.size w w1 := (by repeat' (first | with_reducible (first | refine bset ?_ ?_ | exact Below.refl _ _ | assumption | refine bdrewN ?_ _ | refine bdrew ?_ | refine balloc0 ?_ | refine balloc ?_ ?_ | (apply btrans0; rotate_left; assumption) | (apply btrans; rotate_left; assumption)) | exact Below.refl _ _ | assumption | (apply btrans0; rotate_left; assumption) | (apply btrans; rotate_left; assumption) | (simp; done) | omega | (simp; omega)))
      have z1 : w.heap.size + 1 < w1.heap.size := by have := hb1.size; (try simp at this); omega
      have z1a : w.heap.size < w1.heap.size := by omega
      have A1 : w1.heap[w.heap.size]? = some (.cells (bunC b (.slice a b.blocks.length c)).toArray 28 (0, 0)) := (hb1.block _ (by first | omega | (simp; done) | (simp; omega))).trans (by repeat (first | exact heap_new' (by first | rfl | (simp; done)) | refine (Below.heap_alloc _ _ _ (by first | (simp; done) | (simp; omega))).trans ?_))
      have R1 : w1.heap[w.heap.size + 1]? = some (.cells #[.int .i64 0, .int .i64 0, .int .i64 0, .int .i64 0, .int .i64 0, .int .i64 0, .int .i64 0, .int .i64 0, .int .i64 0, .int .i64 0, .slice none 0 0, .string ⟨#[]⟩] 28 (0, 0)) := (hb1.block _ (by simp)).trans (by repeat (first | exact heap_new' (by first | rfl | (simp; done)) | refine (Below.heap_alloc _ _ _ (by first | (simp; done) | (simp; omega))).trans ?_))
      have ca := fun o => cellB A1 o
      have cr := fun o => cellB R1 o
      have fr := fun o => frozenB R1 o
      simp only [bunC] at ca
      have HA1 := Lib.hid A1
      have HR1 := Lib.hid R1
      clear A1 R1 hb1
      go_wp2_with fail
      refine bodyPost_ret (v := .tuple #[.agg #[.int .i64 0, .int .i64 0, .int .i64 0, .int .i64 0, .int .i64 0, .int .i64 0, .int .i64 0, .int .i64 0, .int .i64 0, .int .i64 0, .slice none 0 0, .string ⟨#[]⟩], .int .i64 2]) (by simp [results, Try.results19, go_sem, World.cell?_setCell_same', cr, z1]) rfl ?_
      unfold FwdPost
      exact ⟨_, rfl, RBlks.nil _ _, (by repeat' (first | with_reducible (first | refine bset ?_ ?_ | exact Below.refl _ _ | assumption | refine bdrewN ?_ _ | refine bdrew ?_ | refine balloc0 ?_ | refine balloc ?_ ?_ | (apply btrans0; rotate_left; assumption) | (apply btrans; rotate_left; assumption)) | exact Below.refl _ _ | assumption | (apply btrans0; rotate_left; assumption) | (apply btrans; rotate_left; assumption) | (simp; done) | omega | (simp; omega)))⟩
  rw [not_or] at r
  obtain ⟨r1, r2⟩ := r
  rw [setAgeS_ok hE (by omega) (by omega)]
  obtain ⟨⟨X, XE⟩, hX⟩ : ∃ q, setS b 1 (intE x) = q := ⟨_, rfl⟩
  obtain ⟨S, hS⟩ : ∃ q, intE x = q := ⟨_, rfl⟩
  have hSl : S.length ≤ 1024 := by rw [← hS]; exact len1 x
  rw [hX]
  rw [hS] at hX
  have HS := Lib.hid hS
  have HX := Lib.hid hX
  clear hE hS hX
  go_enter Try.func19, Try.ntmps19
  simp only [bunC]
  go_wp2_with fail
  refine (rcheck_any b _ _ (HR.out.below' (by repeat' (first | with_reducible (first | refine bset ?_ ?_ | exact Below.refl _ _ | assumption | refine bdrewN ?_ _ | refine bdrew ?_ | refine balloc0 ?_ | refine balloc ?_ ?_ | (apply btrans0; rotate_left; assumption) | (apply btrans; rotate_left; assumption)) | exact Below.refl _ _ | assumption | (apply btrans0; rotate_left; assumption) | (apply btrans; rotate_left; assumption) | (simp; done) | omega | (simp; omega)))) HF.out).mono ?_
  rw [HE.out]
  rintro e w1 ⟨rfl, hb1⟩
  have hB1 : Below w.heap.size w w1 := (by repeat' (first | with_reducible (first | refine bset ?_ ?_ | exact Below.refl _ _ | assumption | refine bdrewN ?_ _ | refine bdrew ?_ | refine balloc0 ?_ | refine balloc ?_ ?_ | (apply btrans0; rotate_left; assumption) | (apply btrans; rotate_left; assumption)) | exact Below.refl _ _ | assumption | (apply btrans0; rotate_left; assumption) | (apply btrans; rotate_left; assumption) | (simp; done) | omega | (simp; omega)))
  have z1 : w.heap.size + 1 < w1.heap.size := by have := hb1.size; (try simp at this); omega
  have z1a : w.heap.size < w1.heap.size := by omega
  have A1 : w1.heap[w.heap.size]? = some (.cells (bunC b (.slice a b.blocks.length c)).toArray 28 (0, 0)) := (hb1.block _ (by first | omega | (simp; done) | (simp; omega))).trans (by repeat (first | exact heap_new' (by first | rfl | (simp; done)) | refine (Below.heap_alloc _ _ _ (by first | (simp; done) | (simp; omega))).trans ?_))
  have R1 : w1.heap[w.heap.size + 1]? = some (.cells #[.int .i64 0, .int .i64 0, .int .i64 0, .int .i64 0, .int .i64 0, .int .i64 0, .int .i64 0, .int .i64 0, .int .i64 0, .int .i64 0, .slice none 0 0, .string ⟨#[]⟩] 28 (0, 0)) := (hb1.block _ (by simp)).trans (by repeat (first | exact heap_new' (by first | rfl | (simp; done)) | refine (Below.heap_alloc _ _ _ (by first | (simp; done) | (simp; omega))).trans ?_))
  have ca := fun o => cellB A1 o
  have cr := fun o => cellB R1 o
  have fr := fun o => frozenB R1 o
  simp only [bunC] at ca
  have HA1 := Lib.hid A1
  have HR1 := Lib.hid R1
  clear A1 R1 hb1
  go_wp2_with fail
  refine (rint_any x _ (by omega) (by omega)).mono ?_
  rw [HS.out]
  rintro e w2 ⟨rfl, hb2⟩
  have hB2 : Below w.heap.size w w2 := (by repeat' (first | with_reducible (first | refine bset ?_ ?_ | exact Below.refl _ _ | assumption | refine bdrewN ?_ _ | refine bdrew ?_ | refine balloc0 ?_ | refine balloc ?_ ?_ | (apply btrans0; rotate_left; assumption) | (apply btrans; rotate_left; assumption)) | exact Below.refl _ _ | assumption | (apply btrans0; rotate_left; assumption) | (apply btrans; rotate_left; assumption) | (simp; done) | omega | (simp; omega)))
  have z2 : w.heap.size + 1 < w2.heap.size := by have := hb2.size; (try simp at this); omega
  have z2a : w.heap.size < w2.heap.size := by omega
  have A2 : w2.heap[w.heap.size]? = some (.cells (bunC b (.slice a b.blocks.length c)).toArray 28 (0, 0)) := (hb2.block _ z1a).trans HA1.out
  have R2 : w2.heap[w.heap.size + 1]? = some (.cells #[.int .i64 0, .int .i64 0, .int .i64 0, .int .i64 0, .int .i64 0, .int .i64 0, .int .i64 0, .int .i64 0, .int .i64 0, .int .i64 0, .slice none 0 0, .string ⟨#[]⟩] 28 (0, 0)) := (hb2.block _ z1).trans HR1.out
  clear ca cr fr
  have ca := fun o => cellB A2 o
  have cr := fun o => cellB R2 o
  have fr := fun o => frozenB R2 o
  simp only [bunC] at ca
  have HA2 := Lib.hid A2
  have HR2 := Lib.hid R2
  clear A2 R2 hb2
  go_wp2_with fail
  refine (rset_any b _ 1 S _ (HR.out.below' (by repeat' (first | with_reducible (first | refine bset ?_ ?_ | exact Below.refl _ _ | assumption | refine bdrewN ?_ _ | refine bdrew ?_ | refine balloc0 ?_ | refine balloc ?_ ?_ | (apply btrans0; rotate_left; assumption) | (apply btrans; rotate_left; assumption)) | exact Below.refl _ _ | assumption | (apply btrans0; rotate_left; assumption) | (apply btrans; rotate_left; assumption) | (simp; done) | omega | (simp; omega)))) HF.out HE.out (by decide) (by decide) hSl).mono ?_
  unfold FwdPost
  rw [HX.out]
  simp only
  rintro e w9 ⟨u9, rfl, hru, hb9⟩
  obtain ⟨va, vc, rfl, g1, g2, g3, g4⟩ := id hru
  have R9 := (hb9.block _ z2).trans HR2.out
  have hsp : Sep (w.heap.size + 1) (w.heap.size + 1) (.slice va X.blocks.length vc) X.blocks := Sep.box hru R9 noBlk12
  have cr9 := fun o => cellB R9 o
  have fr9 := fun o => frozenB R9 o
  have z9 : w.heap.size + 1 < w9.heap.size := by have := hb9.size; omega
  have hB9 : Below w.heap.size w w9 := (by repeat' (first | with_reducible (first | refine bset ?_ ?_ | exact Below.refl _ _ | assumption | refine bdrewN ?_ _ | refine bdrew ?_ | refine balloc0 ?_ | refine balloc ?_ ?_ | (apply btrans0; rotate_left; assumption) | (apply btrans; rotate_left; assumption)) | exact Below.refl _ _ | assumption | (apply btrans0; rotate_left; assumption) | (apply btrans; rotate_left; assumption) | (simp; done) | omega | (simp; omega)))
  have HRU := Lib.hid hru
  have HSP := Lib.hid hsp
  obtain ⟨nn, hnn⟩ : ∃ n, X.blocks.length = n := ⟨_, rfl⟩
  rw [hnn]
  rw [hnn] at HRU HSP
  have HNN := Lib.hid hnn
  clear R9 hru g1 g2 g3 g4 hnn ca cr fr hsp hb9
  simp only [bunC]
  go_wp2_with fail
  refine bodyPost_ret (v := .tuple #[.agg #[.int .i64 X.src, .int .i64 X.crt, .int .i64 X.seq, .int .i64 X.off, .int .i64 X.tot, .int .i64 X.dk, .int .i64 X.dn, .int .i64 X.life, .int .i64 X.prio, .int .i64 X.flags, .slice va nn vc, .string (B X.payload)], .int .i64 XE]) (by simp [results, Try.results19, go_sem, World.cell?_setCell_same', cr9, z9]) rfl ?_
  unfold FwdPost
  exact ⟨_, rfl, RBlks.apart HRU.out HSP.out (fun q o hq hq2 => by simp (disch := first | exact hq | exact fun e => hq e.symm | (simp; omega)) only [World.cell?_setCell_far]) (by simp), (by repeat' (first | with_reducible (first | refine bset ?_ ?_ | exact Below.refl _ _ | assumption | refine bdrewN ?_ _ | refine bdrew ?_ | refine balloc0 ?_ | refine balloc ?_ ?_ | (apply btrans0; rotate_left; assumption) | (apply btrans; rotate_left; assumption)) | exact Below.refl _ _ | assumption | (apply btrans0; rotate_left; assumption) | (apply btrans; rotate_left; assumption) | (simp; done) | omega | (simp; omega)))⟩
set_option maxRecDepth 100000 in
set_option maxHeartbeats 8000000 in
theorem rsetHops_any (b : Bun) (u : Value) (x y : Int) (w : World) (h : RBlks w w.heap.size u b.blocks) (hf : Fits b) :
    Calls Try.prog 21 #[.agg (bunC b u).toArray, .int .i64 x, .int .i64 y] w (FwdPost (setHopS b x y) w) := by
  have HF := Lib.hid hf
  have HR := Lib.hid h
  obtain ⟨a, c, rfl, h1, h2, h3, h4⟩ := h
  clear h1 h2 h3 h4 hf
  obtain ⟨E, hE⟩ : ∃ q, chkE b = q := ⟨_, rfl⟩
  have HE := Lib.hid hE
  by_cases z : E = 0
  case neg =>
    have z' : (E != 0) = true := by rw [bne_iff_ne]; exact z
    rw [show setHopS b x y = (zBun, 1) from if_pos (by rw [hE]; exact z)]
    clear hE z
    go_enter Try.func21, Try.ntmps21
    simp only [bunC]
    go_wp2_with fail
    refine (rcheck_any b _ _ (HR.out.below' (by repeat' (first | with_reducible (first | refine bset ?_ ?_ | exact Below.refl _ _ | assumption | refine bdrewN ?_ _ | refine bdrew ?_ | refine balloc0 ?_ | refine balloc ?_ ?_ | (apply btrans0; rotate_left; assumption) | (apply btrans; rotate_left; assumption)) | exact Below.refl _ _ | assumption | (apply btrans0; rotate_left; assumption) | (apply btrans; rotate_left; assumption) | (simp; done) | omega | (simp; omega)))) HF.out).mono ?_
    rw [HE.out]
    rintro e w1 ⟨rfl, hb1⟩
    have hB1 : Below w.heap.size w w1 := (by repeat' (first | with_reducible (first | refine bset ?_ ?_ | exact Below.refl _ _ | assumption | refine bdrewN ?_ _ | refine bdrew ?_ | refine balloc0 ?_ | refine balloc ?_ ?_ | (apply btrans0; rotate_left; assumption) | (apply btrans; rotate_left; assumption)) | exact Below.refl _ _ | assumption | (apply btrans0; rotate_left; assumption) | (apply btrans; rotate_left; assumption) | (simp; done) | omega | (simp; omega)))
    have z1 : w.heap.size + 1 < w1.heap.size := by have := hb1.size; (try simp at this); omega
    have z1a : w.heap.size < w1.heap.size := by omega
    have A1 : w1.heap[w.heap.size]? = some (.cells (bunC b (.slice a b.blocks.length c)).toArray 28 (0, 0)) := (hb1.block _ (by first | omega | (simp; done) | (simp; omega))).trans (by repeat (first | exact heap_new' (by first | rfl | (simp; done)) | refine (Below.heap_alloc _ _ _ (by first | (simp; done) | (simp; omega))).trans ?_))
    have R1 : w1.heap[w.heap.size + 1]? = some (.cells #[.int .i64 0, .int .i64 0, .int .i64 0, .int .i64 0, .int .i64 0, .int .i64 0, .int .i64 0, .int .i64 0, .int .i64 0, .int .i64 0, .slice none 0 0, .string ⟨#[]⟩] 28 (0, 0)) := (hb1.block _ (by simp)).trans (by repeat (first | exact heap_new' (by first | rfl | (simp; done)) | refine (Below.heap_alloc _ _ _ (by first | (simp; done) | (simp; omega))).trans ?_))
    have ca := fun o => cellB A1 o
    have cr := fun o => cellB R1 o
    have fr := fun o => frozenB R1 o
    simp only [bunC] at ca
    have HA1 := Lib.hid A1
    have HR1 := Lib.hid R1
    clear A1 R1 hb1
    go_wp2_with fail
    refine bodyPost_ret (v := .tuple #[.agg #[.int .i64 0, .int .i64 0, .int .i64 0, .int .i64 0, .int .i64 0, .int .i64 0, .int .i64 0, .int .i64 0, .int .i64 0, .int .i64 0, .slice none 0 0, .string ⟨#[]⟩], .int .i64 1]) (by simp [results, Try.results21, go_sem, World.cell?_setCell_same', cr, z1]) rfl ?_
    unfold FwdPost
    exact ⟨_, rfl, RBlks.nil _ _, (by repeat' (first | with_reducible (first | refine bset ?_ ?_ | exact Below.refl _ _ | assumption | refine bdrewN ?_ _ | refine bdrew ?_ | refine balloc0 ?_ | refine balloc ?_ ?_ | (apply btrans0; rotate_left; assumption) | (apply btrans; rotate_left; assumption)) | exact Below.refl _ _ | assumption | (apply btrans0; rotate_left; assumption) | (apply btrans; rotate_left; assumption) | (simp; done) | omega | (simp; omega)))⟩
  subst z
  obtain ⟨ft, hft⟩ : ∃ q, fitB x y = q := ⟨_, rfl⟩
  have HFT := Lib.hid hft
  cases ft with
  | false =>
    have r := of_decide_eq_false hft
    rw [show setHopS b x y = (zBun, 2) by unfold setHopS; rw [if_neg (by simp [hE]), if_pos (by omega)]]
    clear hE hft r
    go_enter Try.func21, Try.ntmps21
    simp only [bunC]
    go_wp2_with fail
    refine (rcheck_any b _ _ (HR.out.below' (by repeat' (first | with_reducible (first | refine bset ?_ ?_ | exact Below.refl _ _ | assumption | refine bdrewN ?_ _ | refine bdrew ?_ | refine balloc0 ?_ | refine balloc ?_ ?_ | (apply btrans0; rotate_left; assumption) | (apply btrans; rotate_left; assumption)) | exact Below.refl _ _ | assumption | (apply btrans0; rotate_left; assumption) | (apply btrans; rotate_left; assumption) | (simp; done) | omega | (simp; omega)))) HF.out).mono ?_
    rw [HE.out]
    rintro e w1 ⟨rfl, hb1⟩
    have hB1 : Below w.heap.size w w1 := (by repeat' (first | with_reducible (first | refine bset ?_ ?_ | exact Below.refl _ _ | assumption | refine bdrewN ?_ _ | refine bdrew ?_ | refine balloc0 ?_ | refine balloc ?_ ?_ | (apply btrans0; rotate_left; assumption) | (apply btrans; rotate_left; assumption)) | exact Below.refl _ _ | assumption | (apply btrans0; rotate_left; assumption) | (apply btrans; rotate_left; assumption) | (simp; done) | omega | (simp; omega)))
    have z1 : w.heap.size + 1 < w1.heap.size := by have := hb1.size; (try simp at this); omega
    have z1a : w.heap.size < w1.heap.size := by omega
    have A1 : w1.heap[w.heap.size]? = some (.cells (bunC b (.slice a b.blocks.length c)).toArray 28 (0, 0)) := (hb1.block _ (by first | omega | (simp; done) | (simp; omega))).trans (by repeat (first | exact heap_new' (by first | rfl | (simp; done)) | refine (Below.heap_alloc _ _ _ (by first | (simp; done) | (simp; omega))).trans ?_))
    have R1 : w1.heap[w.heap.size + 1]? = some (.cells #[.int .i64 0, .int .i64 0, .int .i64 0, .int .i64 0, .int .i64 0, .int .i64 0, .int .i64 0, .int .i64 0, .int .i64 0, .int .i64 0, .slice none 0 0, .string ⟨#[]⟩] 28 (0, 0)) := (hb1.block _ (by simp)).trans (by repeat (first | exact heap_new' (by first | rfl | (simp; done)) | refine (Below.heap_alloc _ _ _ (by first | (simp; done) | (simp; omega))).trans ?_))
    have ca := fun o => cellB A1 o
    have cr := fun o => cellB R1 o
    have fr := fun o => frozenB R1 o
    simp only [bunC] at ca
    have HA1 := Lib.hid A1
    have HR1 := Lib.hid R1
    clear A1 R1 hb1
    go_wp2_with fail
    refine (rfits_any x y _).mono ?_
    rw [HFT.out]
    rintro e w99 ⟨rfl, hw⟩
    subst hw
    go_wp2_with fail
    refine bodyPost_ret (v := .tuple #[.agg #[.int .i64 0, .int .i64 0, .int .i64 0, .int .i64 0, .int .i64 0, .int .i64 0, .int .i64 0, .int .i64 0, .int .i64 0, .int .i64 0, .slice none 0 0, .string ⟨#[]⟩], .int .i64 2]) (by simp [results, Try.results21, go_sem, World.cell?_setCell_same', cr, z1]) rfl ?_
    unfold FwdPost
    exact ⟨_, rfl, RBlks.nil _ _, (by repeat' (first | with_reducible (first | refine bset ?_ ?_ | exact Below.refl _ _ | assumption | refine bdrewN ?_ _ | refine bdrew ?_ | refine balloc0 ?_ | refine balloc ?_ ?_ | (apply btrans0; rotate_left; assumption) | (apply btrans; rotate_left; assumption)) | exact Below.refl _ _ | assumption | (apply btrans0; rotate_left; assumption) | (apply btrans; rotate_left; assumption) | (simp; done) | omega | (simp; omega)))⟩
  | true =>
    obtain ⟨r1, r2, r3, r4⟩ := of_decide_eq_true hft
    rw [setHopS_ok hE r1 r2 r3 r4]
    obtain ⟨⟨X, XE⟩, hX⟩ : ∃ q, setS b 2 (intE x ++ intE y) = q := ⟨_, rfl⟩
    have hSl : (intE x ++ intE y).length ≤ 1024 := len2 x y
    obtain ⟨S, hS⟩ : ∃ q, intE x = q := ⟨_, rfl⟩
    obtain ⟨T, hT⟩ : ∃ q, intE y = q := ⟨_, rfl⟩
    rw [hX]
    rw [hS, hT] at hX hSl
    have hcat : ¬ 9223372036854775807 < S.length + T.length := by rw [List.length_append] at hSl; omega
    have HSL := Lib.hid hSl
    have HS := Lib.hid hS
    have HT := Lib.hid hT
    have HX := Lib.hid hX
    clear hE hS hX hT hSl hft
    go_enter Try.func21, Try.ntmps21
    simp only [bunC]
    go_wp2_with fail
    refine (rcheck_any b _ _ (HR.out.below' (by repeat' (first | with_reducible (first | refine bset ?_ ?_ | exact Below.refl _ _ | assumption | refine bdrewN ?_ _ | refine bdrew ?_ | refine balloc0 ?_ | refine balloc ?_ ?_ | (apply btrans0; rotate_left; assumption) | (apply btrans; rotate_left; assumption)) | exact Below.refl _ _ | assumption | (apply btrans0; rotate_left; assumption) | (apply btrans; rotate_left; assumption) | (simp; done) | omega | (simp; omega)))) HF.out).mono ?_
    rw [HE.out]
    rintro e w1 ⟨rfl, hb1⟩
    have hB1 : Below w.heap.size w w1 := (by repeat' (first | with_reducible (first | refine bset ?_ ?_ | exact Below.refl _ _ | assumption | refine bdrewN ?_ _ | refine bdrew ?_ | refine balloc0 ?_ | refine balloc ?_ ?_ | (apply btrans0; rotate_left; assumption) | (apply btrans; rotate_left; assumption)) | exact Below.refl _ _ | assumption | (apply btrans0; rotate_left; assumption) | (apply btrans; rotate_left; assumption) | (simp; done) | omega | (simp; omega)))
    have z1 : w.heap.size + 1 < w1.heap.size := by have := hb1.size; (try simp at this); omega
    have z1a : w.heap.size < w1.heap.size := by omega
    have A1 : w1.heap[w.heap.size]? = some (.cells (bunC b (.slice a b.blocks.length c)).toArray 28 (0, 0)) := (hb1.block _ (by first | omega | (simp; done) | (simp; omega))).trans (by repeat (first | exact heap_new' (by first | rfl | (simp; done)) | refine (Below.heap_alloc _ _ _ (by first | (simp; done) | (simp; omega))).trans ?_))
    have R1 : w1.heap[w.heap.size + 1]? = some (.cells #[.int .i64 0, .int .i64 0, .int .i64 0, .int .i64 0, .int .i64 0, .int .i64 0, .int .i64 0, .int .i64 0, .int .i64 0, .int .i64 0, .slice none 0 0, .string ⟨#[]⟩] 28 (0, 0)) := (hb1.block _ (by simp)).trans (by repeat (first | exact heap_new' (by first | rfl | (simp; done)) | refine (Below.heap_alloc _ _ _ (by first | (simp; done) | (simp; omega))).trans ?_))
    have ca := fun o => cellB A1 o
    have cr := fun o => cellB R1 o
    have fr := fun o => frozenB R1 o
    simp only [bunC] at ca
    have HA1 := Lib.hid A1
    have HR1 := Lib.hid R1
    clear A1 R1 hb1
    go_wp2_with fail
    refine (rfits_any x y _).mono ?_
    rw [HFT.out]
    rintro e w99 ⟨rfl, hw⟩
    subst hw
    go_wp2_with fail
    refine (rint_any x _ (by omega) (by omega)).mono ?_
    rw [HS.out]
    rintro e w2 ⟨rfl, hb2⟩
    have hB2 : Below w.heap.size w w2 := (by repeat' (first | with_reducible (first | refine bset ?_ ?_ | exact Below.refl _ _ | assumption | refine bdrewN ?_ _ | refine bdrew ?_ | refine balloc0 ?_ | refine balloc ?_ ?_ | (apply btrans0; rotate_left; assumption) | (apply btrans; rotate_left; assumption)) | exact Below.refl _ _ | assumption | (apply btrans0; rotate_left; assumption) | (apply btrans; rotate_left; assumption) | (simp; done) | omega | (simp; omega)))
    have z2 : w.heap.size + 1 < w2.heap.size := by have := hb2.size; (try simp at this); omega
    have z2a : w.heap.size < w2.heap.size := by omega
    have A2 : w2.heap[w.heap.size]? = some (.cells (bunC b (.slice a b.blocks.length c)).toArray 28 (0, 0)) := (hb2.block _ z1a).trans HA1.out
    have R2 : w2.heap[w.heap.size + 1]? = some (.cells #[.int .i64 0, .int .i64 0, .int .i64 0, .int .i64 0, .int .i64 0, .int .i64 0, .int .i64 0, .int .i64 0, .int .i64 0, .int .i64 0, .slice none 0 0, .string ⟨#[]⟩] 28 (0, 0)) := (hb2.block _ z1).trans HR1.out
    clear ca cr fr
    have ca := fun o => cellB A2 o
    have cr := fun o => cellB R2 o
    have fr := fun o => frozenB R2 o
    simp only [bunC] at ca
    have HA2 := Lib.hid A2
    have HR2 := Lib.hid R2
    clear A2 R2 hb2
    go_wp2_with fail
    refine (rint_any y _ (by omega) (by omega)).mono ?_
    rw [HT.out]
    rintro e w3 ⟨rfl, hb3⟩
    have hB3 : Below w.heap.size w w3 := (by repeat' (first | with_reducible (first | refine bset ?_ ?_ | exact Below.refl _ _ | assumption | refine bdrewN ?_ _ | refine bdrew ?_ | refine balloc0 ?_ | refine balloc ?_ ?_ | (apply btrans0; rotate_left; assumption) | (apply btrans; rotate_left; assumption)) | exact Below.refl _ _ | assumption | (apply btrans0; rotate_left; assumption) | (apply btrans; rotate_left; assumption) | (simp; done) | omega | (simp; omega)))
    have z3 : w.heap.size + 1 < w3.heap.size := by have := hb3.size; (try simp at this); omega
    have z3a : w.heap.size < w3.heap.size := by omega
    have A3 : w3.heap[w.heap.size]? = some (.cells (bunC b (.slice a b.blocks.length c)).toArray 28 (0, 0)) := (hb3.block _ z2a).trans HA2.out
    have R3 : w3.heap[w.heap.size + 1]? = some (.cells #[.int .i64 0, .int .i64 0, .int .i64 0, .int .i64 0, .int .i64 0, .int .i64 0, .int .i64 0, .int .i64 0, .int .i64 0, .int .i64 0, .slice none 0 0, .string ⟨#[]⟩] 28 (0, 0)) := (hb3.block _ z2).trans HR2.out
    clear ca cr fr
    have ca := fun o => cellB A3 o
    have cr := fun o => cellB R3 o
    have fr := fun o => frozenB R3 o
    simp only [bunC] at ca
    have HA3 := Lib.hid A3
    have HR3 := Lib.hid R3
    clear A3 R3 hb3
    go_wp2_with fail
    refine (rset_any b _ 2 (S ++ T) _ (HR.out.below' (by repeat' (first | with_reducible (first | refine bset ?_ ?_ | exact Below.refl _ _ | assumption | refine bdrewN ?_ _ | refine bdrew ?_ | refine balloc0 ?_ | refine balloc ?_ ?_ | (apply btrans0; rotate_left; assumption) | (apply btrans; rotate_left; assumption)) | exact Below.refl _ _ | assumption | (apply btrans0; rotate_left; assumption) | (apply btrans; rotate_left; assumption) | (simp; done) | omega | (simp; omega)))) HF.out HE.out (by decide) (by decide) HSL.out).mono ?_
    unfold FwdPost
    rw [HX.out]
    simp only
    rintro e w9 ⟨u9, rfl, hru, hb9⟩
    obtain ⟨va, vc, rfl, g1, g2, g3, g4⟩ := id hru
    have R9 := (hb9.block _ z3).trans HR3.out
    have hsp : Sep (w.heap.size + 1) (w.heap.size + 1) (.slice va X.blocks.length vc) X.blocks := Sep.box hru R9 noBlk12
    have cr9 := fun o => cellB R9 o
    have fr9 := fun o => frozenB R9 o
    have z9 : w.heap.size + 1 < w9.heap.size := by have := hb9.size; omega
    have hB9 : Below w.heap.size w w9 := (by repeat' (first | with_reducible (first | refine bset ?_ ?_ | exact Below.refl _ _ | assumption | refine bdrewN ?_ _ | refine bdrew ?_ | refine balloc0 ?_ | refine balloc ?_ ?_ | (apply btrans0; rotate_left; assumption) | (apply btrans; rotate_left; assumption)) | exact Below.refl _ _ | assumption | (apply btrans0; rotate_left; assumption) | (apply btrans; rotate_left; assumption) | (simp; done) | omega | (simp; omega)))
    have HRU := Lib.hid hru
    have HSP := Lib.hid hsp
    obtain ⟨nn, hnn⟩ : ∃ n, X.blocks.length = n := ⟨_, rfl⟩
    rw [hnn]
    rw [hnn] at HRU HSP
    have HNN := Lib.hid hnn
    clear R9 hru g1 g2 g3 g4 hnn ca cr fr hsp hb9
    simp only [bunC]
    go_wp2_with fail
    refine bodyPost_ret (v := .tuple #[.agg #[.int .i64 X.src, .int .i64 X.crt, .int .i64 X.seq, .int .i64 X.off, .int .i64 X.tot, .int .i64 X.dk, .int .i64 X.dn, .int .i64 X.life, .int .i64 X.prio, .int .i64 X.flags, .slice va nn vc, .string (B X.payload)], .int .i64 XE]) (by simp [results, Try.results21, go_sem, World.cell?_setCell_same', cr9, z9]) rfl ?_
    unfold FwdPost
    exact ⟨_, rfl, RBlks.apart HRU.out HSP.out (fun q o hq hq2 => by simp (disch := first | exact hq | exact fun e => hq e.symm | (simp; omega)) only [World.cell?_setCell_far]) (by simp), (by repeat' (first | with_reducible (first | refine bset ?_ ?_ | exact Below.refl _ _ | assumption | refine bdrewN ?_ _ | refine bdrew ?_ | refine balloc0 ?_ | refine balloc ?_ ?_ | (apply btrans0; rotate_left; assumption) | (apply btrans; rotate_left; assumption)) | exact Below.refl _ _ | assumption | (apply btrans0; rotate_left; assumption) | (apply btrans; rotate_left; assumption) | (simp; done) | omega | (simp; omega)))⟩
set_option maxRecDepth 100000 in
theorem wpList_append_ints {ops : Array Oper} {rest : List Oper} {o : Oper} {ac : Act} {Q : Exit → Act → World → Prop} {w : World} (hgd : o.guard = none) (s x : Operand)
    (ho : o.op = .call { callee := .builtin .append, args := #[s, x], argTypes := #[36, 36] })
    (base : Nat) (v : Value) (n : Nat) (xs : List Int) (hs : ac.eval s = v) (hown : w.ownsRow base 3 1 v n (ints xs)) (u : Value) (N : Nat) (l : List Int) (hx : ac.eval x = u) (hr : RInts w N u l) (hn : n + l.length ≤ 1000000) (hbase : base ≤ w.heap.size) (ht : o.type = 36)
    (h : ∀ v' w', w'.ownsRow base 3 1 v' (n + l.length) (ints (xs ++ l)) → Below base w w' → wpList Try.prog ops Q rest (ac.put o.dst v') w') : wpList Try.prog ops Q (o :: rest) ac w := by
  obtain ⟨i0, hin, hz0, hz1, hz2⟩ := info_parts infoInt
  obtain ⟨a, c, rfl, h1, h2, h3, h4⟩ := hr
  cases a with
  | none =>
    have hc := h3 rfl
    subst hc
    have hz : l = [] := List.eq_nil_of_length_eq_zero (by omega)
    subst hz
    refine wpList_append_skip _ hgd s x _ ho v hs hx (run_append_owned_none (P := Try.prog) (w := w) base 36 36 3 i0 1 Try.underlying36 hin v _ _ hown) ?_ ht
    exact h v w (by simpa using hown) (Below.refl _ _)
  | some ad =>
    have hnw : ∀ j u, (ints l)[j]? = some u → w.cell? (ad.add j) = some u := by
      intro j u hu
      have hp : 0 < l.length := by
        cases l with
        | nil => simp [ints] at hu
        | cons x r => simp
      obtain ⟨b, o, e, hb, hc⟩ := h4 hp
      injection e with e
      subst e
      rw [addN]
      unfold ints at hu
      rw [List.getElem?_map] at hu
      cases hx : l[j]? with
      | none => rw [hx] at hu; cases hu
      | some x => rw [hx] at hu; injection hu with hu; subst hu; exact hc j x hx
    refine wpList_append_own_at (P := Try.prog) w hgd s x 36 ho base 3 i0 (.int .i64 0) 1 8 Try.underlying36 hin hz0 hz1 hz2 rfl (by omega) v n (ints xs) hs hown ad l.length c (ints l) hx (by simp [ints]) hnw (by simp [ints, Value.oneCell']) (by unfold maxLen; omega) (by omega) hbase ?_
    intro v' w' hO hg _ _
    refine h v' w' (by simpa [ints] using hO) ((Below.refl _ _).grown hg (by exact hbase) fun q hq => ?_)
    rcases hown.2 with ⟨rfl, _⟩ | ⟨g, cap, cur, rfl, hb, _⟩
    · cases hq
    · obtain rfl : g = q := Option.some.inj hq
      exact hb
set_option maxRecDepth 100000 in
set_option maxHeartbeats 8000000 in
theorem rvisit0_any (b : Bun) (u : Value) (l : List Int) (v : Value) (n : Int) (w : World) (h : RBlks w w.heap.size u b.blocks) (hf : Fits b) (hv : chkE b = 0) (hi : RInts w w.heap.size v l) (hvl : visB l = true) (hn : nodeB n = true) :
    Calls Try.prog 45 #[.agg (bunC b u).toArray, v, .int .i64 n] w (FwdPost (if l.contains n = true then (zBun, 27) else setS b 3 (listE (l ++ [n]))) w) := by
  have HF := Lib.hid hf
  have HR := Lib.hid h
  obtain ⟨a, c, rfl, h1, h2, h3, h4⟩ := h
  clear h1 h2 h3 h4 hf
  have HV := Lib.hid hv
  have HRI := Lib.hid hi
  obtain ⟨va0, vc0, rfl, _, _, _, _⟩ := id hi
  obtain ⟨ct, hct⟩ : ∃ q, l.contains n = q := ⟨_, rfl⟩
  have HCT := Lib.hid hct
  rw [hct]
  cases ct with
  | true =>
    rw [if_pos rfl]
    clear hv hi hct
    go_enter Try.func45, Try.ntmps45
    simp only [bunC]
    go_wp2_with fail
    refine (rhasI_any l _ n _ (HRI.out.below' (by repeat' (first | with_reducible (first | refine bset ?_ ?_ | exact Below.refl _ _ | assumption | refine bdrewN ?_ _ | refine bdrew ?_ | refine balloc0 ?_ | refine balloc ?_ ?_ | (apply btrans0; rotate_left; assumption) | (apply btrans; rotate_left; assumption)) | exact Below.refl _ _ | assumption | (apply btrans0; rotate_left; assumption) | (apply btrans; rotate_left; assumption) | (simp; done) | omega | (simp; omega))))).mono ?_
    rw [HCT.out]
    rintro e w1 ⟨rfl, hw1⟩
    have hb1 : Below ((w.alloc (.cells (bunC b (.slice a b.blocks.length c)).toArray 28)).alloc (.cells #[.int .i64 0, .int .i64 0, .int .i64 0, .int .i64 0, .int .i64 0, .int .i64 0, .int .i64 0, .int .i64 0, .int .i64 0, .int .i64 0, .slice none 0 0, .string ⟨#[]⟩] 28)).heap.size ((w.alloc (.cells (bunC b (.slice a b.blocks.length c)).toArray 28)).alloc (.cells #[.int .i64 0, .int .i64 0, .int .i64 0, .int .i64 0, .int .i64 0, .int .i64 0, .int .i64 0, .int .i64 0, .int .i64 0, .int .i64 0, .slice none 0 0, .string ⟨#[]⟩] 28)) w1 := by rw [hw1]; exact Below.refl _ _
    clear hw1
    have hB1 : Below w.heap.size w w1 := (by repeat' (first | with_reducible (first | refine bset ?_ ?_ | exact Below.refl _ _ | assumption | refine bdrewN ?_ _ | refine bdrew ?_ | refine balloc0 ?_ | refine balloc ?_ ?_ | (apply btrans0; rotate_left; assumption) | (apply btrans; rotate_left; assumption)) | exact Below.refl _ _ | assumption | (apply btrans0; rotate_left; assumption) | (apply btrans; rotate_left; assumption) | (simp; done) | omega | (simp; omega)))
    have z1 : w.heap.size + 1 < w1.heap.size := by have := hb1.size; (try simp at this); omega
    have z1a : w.heap.size < w1.heap.size := by omega
    have A1 : w1.heap[w.heap.size]? = some (.cells (bunC b (.slice a b.blocks.length c)).toArray 28 (0, 0)) := (hb1.block _ (by first | omega | (simp; done) | (simp; omega))).trans (by repeat (first | exact heap_new' (by first | rfl | (simp; done)) | refine (Below.heap_alloc _ _ _ (by first | (simp; done) | (simp; omega))).trans ?_))
    have R1 : w1.heap[w.heap.size + 1]? = some (.cells #[.int .i64 0, .int .i64 0, .int .i64 0, .int .i64 0, .int .i64 0, .int .i64 0, .int .i64 0, .int .i64 0, .int .i64 0, .int .i64 0, .slice none 0 0, .string ⟨#[]⟩] 28 (0, 0)) := (hb1.block _ (by simp)).trans (by repeat (first | exact heap_new' (by first | rfl | (simp; done)) | refine (Below.heap_alloc _ _ _ (by first | (simp; done) | (simp; omega))).trans ?_))
    have ca := fun o => cellB A1 o
    have cr := fun o => cellB R1 o
    have fr := fun o => frozenB R1 o
    simp only [bunC] at ca
    have HA1 := Lib.hid A1
    have HR1 := Lib.hid R1
    clear A1 R1 hb1
    go_wp2_with fail
    refine bodyPost_ret (v := .tuple #[.agg #[.int .i64 0, .int .i64 0, .int .i64 0, .int .i64 0, .int .i64 0, .int .i64 0, .int .i64 0, .int .i64 0, .int .i64 0, .int .i64 0, .slice none 0 0, .string ⟨#[]⟩], .int .i64 27]) (by simp [results, Try.results45, go_sem, World.cell?_setCell_same', cr, z1]) rfl ?_
    unfold FwdPost
    exact ⟨_, rfl, RBlks.nil _ _, (by repeat' (first | with_reducible (first | refine bset ?_ ?_ | exact Below.refl _ _ | assumption | refine bdrewN ?_ _ | refine bdrew ?_ | refine balloc0 ?_ | refine balloc ?_ ?_ | (apply btrans0; rotate_left; assumption) | (apply btrans; rotate_left; assumption)) | exact Below.refl _ _ | assumption | (apply btrans0; rotate_left; assumption) | (apply btrans; rotate_left; assumption) | (simp; done) | omega | (simp; omega)))⟩
  | false =>
    rw [if_neg (by simp)]
    obtain ⟨hl16, hlr⟩ := visB_facts hvl
    have hn16 : 0 ≤ n ∧ n < 16 := of_decide_eq_true hn
    have HRG : Hid (IRange (l ++ [n])) := Lib.hid (fun m hm => by
      rcases List.mem_append.1 hm with hm | hm
      · have := hlr m hm; omega
      · rw [List.mem_singleton.1 hm]; omega)
    have hSl := vis_len (n := n) hvl
    obtain ⟨S, hS⟩ : ∃ q, listE (l ++ [n]) = q := ⟨_, rfl⟩
    obtain ⟨⟨X, XE⟩, hX⟩ : ∃ q, setS b 3 (listE (l ++ [n])) = q := ⟨_, rfl⟩
    rw [hX]
    rw [hS] at hX hSl
    have HS := Lib.hid hS
    have HX := Lib.hid hX
    obtain ⟨i0, hin, hz0, hz1, hz2⟩ := info_parts infoInt
    clear hv hi hct hlr hvl hn hS hX
    go_enter Try.func45, Try.ntmps45
    simp only [bunC]
    go_wp2_with fail
    refine (rhasI_any l _ n _ (HRI.out.below' (by repeat' (first | with_reducible (first | refine bset ?_ ?_ | exact Below.refl _ _ | assumption | refine bdrewN ?_ _ | refine bdrew ?_ | refine balloc0 ?_ | refine balloc ?_ ?_ | (apply btrans0; rotate_left; assumption) | (apply btrans; rotate_left; assumption)) | exact Below.refl _ _ | assumption | (apply btrans0; rotate_left; assumption) | (apply btrans; rotate_left; assumption) | (simp; done) | omega | (simp; omega))))).mono ?_
    rw [HCT.out]
    rintro e w1 ⟨rfl, hw1⟩
    have hb1 : Below ((w.alloc (.cells (bunC b (.slice a b.blocks.length c)).toArray 28)).alloc (.cells #[.int .i64 0, .int .i64 0, .int .i64 0, .int .i64 0, .int .i64 0, .int .i64 0, .int .i64 0, .int .i64 0, .int .i64 0, .int .i64 0, .slice none 0 0, .string ⟨#[]⟩] 28)).heap.size ((w.alloc (.cells (bunC b (.slice a b.blocks.length c)).toArray 28)).alloc (.cells #[.int .i64 0, .int .i64 0, .int .i64 0, .int .i64 0, .int .i64 0, .int .i64 0, .int .i64 0, .int .i64 0, .int .i64 0, .int .i64 0, .slice none 0 0, .string ⟨#[]⟩] 28)) w1 := by rw [hw1]; exact Below.refl _ _
    clear hw1
    have hB1 : Below w.heap.size w w1 := (by repeat' (first | with_reducible (first | refine bset ?_ ?_ | exact Below.refl _ _ | assumption | refine bdrewN ?_ _ | refine bdrew ?_ | refine balloc0 ?_ | refine balloc ?_ ?_ | (apply btrans0; rotate_left; assumption) | (apply btrans; rotate_left; assumption)) | exact Below.refl _ _ | assumption | (apply btrans0; rotate_left; assumption) | (apply btrans; rotate_left; assumption) | (simp; done) | omega | (simp; omega)))
    have z1 : w.heap.size + 1 < w1.heap.size := by have := hb1.size; (try simp at this); omega
    have z1a : w.heap.size < w1.heap.size := by omega
    have A1 : w1.heap[w.heap.size]? = some (.cells (bunC b (.slice a b.blocks.length c)).toArray 28 (0, 0)) := (hb1.block _ (by first | omega | (simp; done) | (simp; omega))).trans (by repeat (first | exact heap_new' (by first | rfl | (simp; done)) | refine (Below.heap_alloc _ _ _ (by first | (simp; done) | (simp; omega))).trans ?_))
    have R1 : w1.heap[w.heap.size + 1]? = some (.cells #[.int .i64 0, .int .i64 0, .int .i64 0, .int .i64 0, .int .i64 0, .int .i64 0, .int .i64 0, .int .i64 0, .int .i64 0, .int .i64 0, .slice none 0 0, .string ⟨#[]⟩] 28 (0, 0)) := (hb1.block _ (by simp)).trans (by repeat (first | exact heap_new' (by first | rfl | (simp; done)) | refine (Below.heap_alloc _ _ _ (by first | (simp; done) | (simp; omega))).trans ?_))
    have ca := fun o => cellB A1 o
    have cr := fun o => cellB R1 o
    have fr := fun o => frozenB R1 o
    simp only [bunC] at ca
    have HA1 := Lib.hid A1
    have HR1 := Lib.hid R1
    clear A1 R1 hb1
    have hown : (w1.alloc (.cells #[] 3)).ownsRow w1.heap.size 3 1 (.slice (some ⟨w1.heap.size, 0, none⟩) 0 0) 0 (ints []) := World.ownsRow_made w1 #[] 0 (Nat.le_refl _) (by simp) rfl
    clear ca cr fr
    go_wp2_with (first | (at_builtin; refine wpList_append_ints rfl _ _ rfl w1.heap.size _ _ [] rfl hown _ _ l rfl (HRI.out.below' (by repeat' (first | with_reducible (first | refine bset ?_ ?_ | exact Below.refl _ _ | assumption | refine bdrewN ?_ _ | refine bdrew ?_ | refine balloc0 ?_ | refine balloc ?_ ?_ | (apply btrans0; rotate_left; assumption) | (apply btrans; rotate_left; assumption)) | exact Below.refl _ _ | assumption | (apply btrans0; rotate_left; assumption) | (apply btrans; rotate_left; assumption) | (simp; done) | omega | (simp; omega)))) (by omega) (by simp) rfl ?_; intro v3 w3 hO3 hb3; have hB3 : Below w1.heap.size w1 w3 := (by clear hB1; exact (by repeat' (first | with_reducible (first | refine bset ?_ ?_ | exact Below.refl _ _ | assumption | refine bdrewN ?_ _ | refine bdrew ?_ | refine balloc0 ?_ | refine balloc ?_ ?_ | (apply btrans0; rotate_left; assumption) | (apply btrans; rotate_left; assumption)) | exact Below.refl _ _ | assumption | (apply btrans0; rotate_left; assumption) | (apply btrans; rotate_left; assumption) | (simp; done) | omega | (simp; omega)))); have zw3 : w1.heap.size ≤ w3.heap.size := hB3.size) | (at_builtin; refine wpList_append_own _ rfl _ _ _ rfl w1.heap.size 3 i0 _ 1 8 Try.underlying36 hin hz0 hz1 hz2 rfl (by omega) _ _ _ rfl (hO3.alloc _) ⟨w3.heap.size, 0, none⟩ 1 1 [.int .i64 n] rfl rfl (news_one heap_new) (by simp [Value.oneCell']) (by simp only [maxLen]; omega) (by omega) (by simp; omega) ?_; intro v4 w4 hO4 hg4 _))
    have hB4 : Below w1.heap.size w1 w4 := (balloc hB3 (by omega)).grown hg4 (by simp; omega) (fun q hq => (hO3.lt q hq).1)
    have hr4 : RInts w4 w4.heap.size v4 (l ++ [n]) := RInts.of_own (n := (l ++ [n]).length) (by simpa [ints] using hO4)
    clear hO4 hg4 hO3 hb3
    refine (rlist_any (l ++ [n]) _ _ hr4 (by simp; omega) HRG.out).mono ?_
    rw [HS.out]
    rintro e w5 ⟨rfl, hb5⟩
    have hb2 : Below w1.heap.size w1 w5 := by clear hB1; exact (by repeat' (first | with_reducible (first | refine bset ?_ ?_ | exact Below.refl _ _ | assumption | refine bdrewN ?_ _ | refine bdrew ?_ | refine balloc0 ?_ | refine balloc ?_ ?_ | (apply btrans0; rotate_left; assumption) | (apply btrans; rotate_left; assumption)) | exact Below.refl _ _ | assumption | (apply btrans0; rotate_left; assumption) | (apply btrans; rotate_left; assumption) | (simp; done) | omega | (simp; omega)))
    clear hB3 hB4 hr4 hb5
    obtain ⟨w2, hw2⟩ : ∃ q, q = w5 := ⟨_, rfl⟩
    subst hw2
    have hB2 : Below w.heap.size w w2 := (by repeat' (first | with_reducible (first | refine bset ?_ ?_ | exact Below.refl _ _ | assumption | refine bdrewN ?_ _ | refine bdrew ?_ | refine balloc0 ?_ | refine balloc ?_ ?_ | (apply btrans0; rotate_left; assumption) | (apply btrans; rotate_left; assumption)) | exact Below.refl _ _ | assumption | (apply btrans0; rotate_left; assumption) | (apply btrans; rotate_left; assumption) | (simp; done) | omega | (simp; omega)))
    have z2 : w.heap.size + 1 < w2.heap.size := by have := hb2.size; (try simp at this); omega
    have z2a : w.heap.size < w2.heap.size := by omega
    have A2 : w2.heap[w.heap.size]? = some (.cells (bunC b (.slice a b.blocks.length c)).toArray 28 (0, 0)) := (hb2.block _ z1a).trans HA1.out
    have R2 : w2.heap[w.heap.size + 1]? = some (.cells #[.int .i64 0, .int .i64 0, .int .i64 0, .int .i64 0, .int .i64 0, .int .i64 0, .int .i64 0, .int .i64 0, .int .i64 0, .int .i64 0, .slice none 0 0, .string ⟨#[]⟩] 28 (0, 0)) := (hb2.block _ z1).trans HR1.out
    have ca := fun o => cellB A2 o
    have cr := fun o => cellB R2 o
    have fr := fun o => frozenB R2 o
    simp only [bunC] at ca
    have HA2 := Lib.hid A2
    have HR2 := Lib.hid R2
    clear A2 R2 hb2
    go_wp2_with fail
    refine (rset_any b _ 3 S _ (HR.out.below' (by repeat' (first | with_reducible (first | refine bset ?_ ?_ | exact Below.refl _ _ | assumption | refine bdrewN ?_ _ | refine bdrew ?_ | refine balloc0 ?_ | refine balloc ?_ ?_ | (apply btrans0; rotate_left; assumption) | (apply btrans; rotate_left; assumption)) | exact Below.refl _ _ | assumption | (apply btrans0; rotate_left; assumption) | (apply btrans; rotate_left; assumption) | (simp; done) | omega | (simp; omega)))) HF.out HV.out (by decide) (by decide) hSl).mono ?_
    unfold FwdPost
    rw [HX.out]
    simp only
    rintro e w9 ⟨u9, rfl, hru, hb9⟩
    obtain ⟨va, vc, rfl, g1, g2, g3, g4⟩ := id hru
    have R9 := (hb9.block _ z2).trans HR2.out
    have hsp : Sep (w.heap.size + 1) (w.heap.size + 1) (.slice va X.blocks.length vc) X.blocks := Sep.box hru R9 noBlk12
    have cr9 := fun o => cellB R9 o
    have fr9 := fun o => frozenB R9 o
    have z9 : w.heap.size + 1 < w9.heap.size := by have := hb9.size; omega
    have hB9 : Below w.heap.size w w9 := (by repeat' (first | with_reducible (first | refine bset ?_ ?_ | exact Below.refl _ _ | assumption | refine bdrewN ?_ _ | refine bdrew ?_ | refine balloc0 ?_ | refine balloc ?_ ?_ | (apply btrans0; rotate_left; assumption) | (apply btrans; rotate_left; assumption)) | exact Below.refl _ _ | assumption | (apply btrans0; rotate_left; assumption) | (apply btrans; rotate_left; assumption) | (simp; done) | omega | (simp; omega)))
    have HRU := Lib.hid hru
    have HSP := Lib.hid hsp
    obtain ⟨nn, hnn⟩ : ∃ n, X.blocks.length = n := ⟨_, rfl⟩
    rw [hnn]
    rw [hnn] at HRU HSP
    have HNN := Lib.hid hnn
    clear R9 hru g1 g2 g3 g4 hnn ca cr fr hsp hb9
    simp only [bunC]
    go_wp2_with fail
    refine bodyPost_ret (v := .tuple #[.agg #[.int .i64 X.src, .int .i64 X.crt, .int .i64 X.seq, .int .i64 X.off, .int .i64 X.tot, .int .i64 X.dk, .int .i64 X.dn, .int .i64 X.life, .int .i64 X.prio, .int .i64 X.flags, .slice va nn vc, .string (B X.payload)], .int .i64 XE]) (by simp [results, Try.results45, go_sem, World.cell?_setCell_same', cr9, z9]) rfl ?_
    unfold FwdPost
    exact ⟨_, rfl, RBlks.apart HRU.out HSP.out (fun q o hq hq2 => by simp (disch := first | exact hq | exact fun e => hq e.symm | (simp; omega)) only [World.cell?_setCell_far]) (by simp), (by repeat' (first | with_reducible (first | refine bset ?_ ?_ | exact Below.refl _ _ | assumption | refine bdrewN ?_ _ | refine bdrew ?_ | refine balloc0 ?_ | refine balloc ?_ ?_ | (apply btrans0; rotate_left; assumption) | (apply btrans; rotate_left; assumption)) | exact Below.refl _ _ | assumption | (apply btrans0; rotate_left; assumption) | (apply btrans; rotate_left; assumption) | (simp; done) | omega | (simp; omega)))⟩
set_option maxRecDepth 100000 in
set_option maxHeartbeats 8000000 in
theorem rvisit_any (b : Bun) (u : Value) (n : Int) (w : World) (h : RBlks w w.heap.size u b.blocks) (hf : Fits b) :
    Calls Try.prog 23 #[.agg (bunC b u).toArray, .int .i64 n] w (FwdPost (visitS b n) w) := by
  have HF := Lib.hid hf
  have HR := Lib.hid h
  obtain ⟨a, c, rfl, h1, h2, h3, h4⟩ := h
  clear h1 h2 h3 h4 hf
  obtain ⟨E, hE⟩ : ∃ q, chkE b = q := ⟨_, rfl⟩
  have HE := Lib.hid hE
  by_cases z : E = 0
  case neg =>
    have z' : (E != 0) = true := by rw [bne_iff_ne]; exact z
    rw [show visitS b n = (zBun, 1) by unfold visitS; rw [getS_bad (by rw [hE]; exact z), if_pos rfl]]
    clear hE z
    go_enter Try.func23, Try.ntmps23
    simp only [bunC]
    go_wp2_with fail
    refine (rcheck_any b _ _ (HR.out.below' (by repeat' (first | with_reducible (first | refine bset ?_ ?_ | exact Below.refl _ _ | assumption | refine bdrewN ?_ _ | refine bdrew ?_ | refine balloc0 ?_ | refine balloc ?_ ?_ | (apply btrans0; rotate_left; assumption) | (apply btrans; rotate_left; assumption)) | exact Below.refl _ _ | assumption | (apply btrans0; rotate_left; assumption) | (apply btrans; rotate_left; assumption) | (simp; done) | omega | (simp; omega)))) HF.out).mono ?_
    rw [HE.out]
    rintro e w1 ⟨rfl, hb1⟩
    have hB1 : Below w.heap.size w w1 := (by repeat' (first | with_reducible (first | refine bset ?_ ?_ | exact Below.refl _ _ | assumption | refine bdrewN ?_ _ | refine bdrew ?_ | refine balloc0 ?_ | refine balloc ?_ ?_ | (apply btrans0; rotate_left; assumption) | (apply btrans; rotate_left; assumption)) | exact Below.refl _ _ | assumption | (apply btrans0; rotate_left; assumption) | (apply btrans; rotate_left; assumption) | (simp; done) | omega | (simp; omega)))
    have z1 : w.heap.size + 1 < w1.heap.size := by have := hb1.size; (try simp at this); omega
    have z1a : w.heap.size < w1.heap.size := by omega
    have A1 : w1.heap[w.heap.size]? = some (.cells (bunC b (.slice a b.blocks.length c)).toArray 28 (0, 0)) := (hb1.block _ (by first | omega | (simp; done) | (simp; omega))).trans (by repeat (first | exact heap_new' (by first | rfl | (simp; done)) | refine (Below.heap_alloc _ _ _ (by first | (simp; done) | (simp; omega))).trans ?_))
    have R1 : w1.heap[w.heap.size + 1]? = some (.cells #[.int .i64 0, .int .i64 0, .int .i64 0, .int .i64 0, .int .i64 0, .int .i64 0, .int .i64 0, .int .i64 0, .int .i64 0, .int .i64 0, .slice none 0 0, .string ⟨#[]⟩] 28 (0, 0)) := (hb1.block _ (by simp)).trans (by repeat (first | exact heap_new' (by first | rfl | (simp; done)) | refine (Below.heap_alloc _ _ _ (by first | (simp; done) | (simp; omega))).trans ?_))
    have ca := fun o => cellB A1 o
    have cr := fun o => cellB R1 o
    have fr := fun o => frozenB R1 o
    simp only [bunC] at ca
    have HA1 := Lib.hid A1
    have HR1 := Lib.hid R1
    clear A1 R1 hb1
    go_wp2_with fail
    refine bodyPost_ret (v := .tuple #[.agg #[.int .i64 0, .int .i64 0, .int .i64 0, .int .i64 0, .int .i64 0, .int .i64 0, .int .i64 0, .int .i64 0, .int .i64 0, .int .i64 0, .slice none 0 0, .string ⟨#[]⟩], .int .i64 1]) (by simp [results, Try.results23, go_sem, World.cell?_setCell_same', cr, z1]) rfl ?_
    unfold FwdPost
    exact ⟨_, rfl, RBlks.nil _ _, (by repeat' (first | with_reducible (first | refine bset ?_ ?_ | exact Below.refl _ _ | assumption | refine bdrewN ?_ _ | refine bdrew ?_ | refine balloc0 ?_ | refine balloc ?_ ?_ | (apply btrans0; rotate_left; assumption) | (apply btrans; rotate_left; assumption)) | exact Below.refl _ _ | assumption | (apply btrans0; rotate_left; assumption) | (apply btrans; rotate_left; assumption) | (simp; done) | omega | (simp; omega)))⟩
  subst z
  obtain ⟨⟨l, G⟩, hg⟩ : ∃ q, getS b 3 = q := ⟨_, rfl⟩
  have HG := Lib.hid hg
  have g1 : G ≠ 1 := by
    rcases getS_ok hg with ⟨rfl, _⟩ | ⟨_, _, h | h | h⟩
    · decide
    · exact absurd hE h.2
    · rw [h.1]; decide
    · rw [h.1]; decide
  have hvs : visitS b n = if nodeB n = false then (zBun, 2) else if G = 11 then (zBun, 11) else if l.contains n = true then (zBun, 27) else setS b 3 (listE (l ++ [n])) := by
    unfold visitS; rw [hg]; simp only; rw [if_neg g1]
  obtain ⟨R, hR⟩ : ∃ q, visitS b n = q := ⟨_, rfl⟩
  rw [hR] at hvs ⊢
  obtain ⟨nd, hnd⟩ : ∃ q, nodeB n = q := ⟨_, rfl⟩
  have HND := Lib.hid hnd
  rw [hnd] at hvs
  have HVL := Lib.hid (get3_vis hg)
  clear hR g1 hE
  cases nd with
  | false =>
    obtain rfl : R = (zBun, 2) := by rw [hvs, if_pos rfl]
    clear hvs hg hnd
    go_enter Try.func23, Try.ntmps23
    simp only [bunC]
    go_wp2_with fail
    refine (rcheck_any b _ _ (HR.out.below' (by repeat' (first | with_reducible (first | refine bset ?_ ?_ | exact Below.refl _ _ | assumption | refine bdrewN ?_ _ | refine bdrew ?_ | refine balloc0 ?_ | refine balloc ?_ ?_ | (apply btrans0; rotate_left; assumption) | (apply btrans; rotate_left; assumption)) | exact Below.refl _ _ | assumption | (apply btrans0; rotate_left; assumption) | (apply btrans; rotate_left; assumption) | (simp; done) | omega | (simp; omega)))) HF.out).mono ?_
    rw [HE.out]
    rintro e w1 ⟨rfl, hb1⟩
    have hB1 : Below w.heap.size w w1 := (by repeat' (first | with_reducible (first | refine bset ?_ ?_ | exact Below.refl _ _ | assumption | refine bdrewN ?_ _ | refine bdrew ?_ | refine balloc0 ?_ | refine balloc ?_ ?_ | (apply btrans0; rotate_left; assumption) | (apply btrans; rotate_left; assumption)) | exact Below.refl _ _ | assumption | (apply btrans0; rotate_left; assumption) | (apply btrans; rotate_left; assumption) | (simp; done) | omega | (simp; omega)))
    have z1 : w.heap.size + 1 < w1.heap.size := by have := hb1.size; (try simp at this); omega
    have z1a : w.heap.size < w1.heap.size := by omega
    have A1 : w1.heap[w.heap.size]? = some (.cells (bunC b (.slice a b.blocks.length c)).toArray 28 (0, 0)) := (hb1.block _ (by first | omega | (simp; done) | (simp; omega))).trans (by repeat (first | exact heap_new' (by first | rfl | (simp; done)) | refine (Below.heap_alloc _ _ _ (by first | (simp; done) | (simp; omega))).trans ?_))
    have R1 : w1.heap[w.heap.size + 1]? = some (.cells #[.int .i64 0, .int .i64 0, .int .i64 0, .int .i64 0, .int .i64 0, .int .i64 0, .int .i64 0, .int .i64 0, .int .i64 0, .int .i64 0, .slice none 0 0, .string ⟨#[]⟩] 28 (0, 0)) := (hb1.block _ (by simp)).trans (by repeat (first | exact heap_new' (by first | rfl | (simp; done)) | refine (Below.heap_alloc _ _ _ (by first | (simp; done) | (simp; omega))).trans ?_))
    have ca := fun o => cellB A1 o
    have cr := fun o => cellB R1 o
    have fr := fun o => frozenB R1 o
    simp only [bunC] at ca
    have HA1 := Lib.hid A1
    have HR1 := Lib.hid R1
    clear A1 R1 hb1
    go_wp2_with fail
    refine (rnode_any n _).mono ?_
    rw [HND.out]
    rintro e w99 ⟨rfl, hw⟩
    subst hw
    go_wp2_with fail
    refine bodyPost_ret (v := .tuple #[.agg #[.int .i64 0, .int .i64 0, .int .i64 0, .int .i64 0, .int .i64 0, .int .i64 0, .int .i64 0, .int .i64 0, .int .i64 0, .int .i64 0, .slice none 0 0, .string ⟨#[]⟩], .int .i64 2]) (by simp [results, Try.results23, go_sem, World.cell?_setCell_same', cr, z1]) rfl ?_
    unfold FwdPost
    exact ⟨_, rfl, RBlks.nil _ _, (by repeat' (first | with_reducible (first | refine bset ?_ ?_ | exact Below.refl _ _ | assumption | refine bdrewN ?_ _ | refine bdrew ?_ | refine balloc0 ?_ | refine balloc ?_ ?_ | (apply btrans0; rotate_left; assumption) | (apply btrans; rotate_left; assumption)) | exact Below.refl _ _ | assumption | (apply btrans0; rotate_left; assumption) | (apply btrans; rotate_left; assumption) | (simp; done) | omega | (simp; omega)))⟩
  | true =>
    rw [if_neg (by simp)] at hvs
    by_cases q2 : G = 11
    · subst q2
      obtain rfl : R = (zBun, 11) := by rw [hvs, if_pos rfl]
      clear hvs hg hnd
      go_enter Try.func23, Try.ntmps23
      simp only [bunC]
      go_wp2_with fail
      refine (rcheck_any b _ _ (HR.out.below' (by repeat' (first | with_reducible (first | refine bset ?_ ?_ | exact Below.refl _ _ | assumption | refine bdrewN ?_ _ | refine bdrew ?_ | refine balloc0 ?_ | refine balloc ?_ ?_ | (apply btrans0; rotate_left; assumption) | (apply btrans; rotate_left; assumption)) | exact Below.refl _ _ | assumption | (apply btrans0; rotate_left; assumption) | (apply btrans; rotate_left; assumption) | (simp; done) | omega | (simp; omega)))) HF.out).mono ?_
      rw [HE.out]
      rintro e w1 ⟨rfl, hb1⟩
      have hB1 : Below w.heap.size w w1 := (by repeat' (first | with_reducible (first | refine bset ?_ ?_ | exact Below.refl _ _ | assumption | refine bdrewN ?_ _ | refine bdrew ?_ | refine balloc0 ?_ | refine balloc ?_ ?_ | (apply btrans0; rotate_left; assumption) | (apply btrans; rotate_left; assumption)) | exact Below.refl _ _ | assumption | (apply btrans0; rotate_left; assumption) | (apply btrans; rotate_left; assumption) | (simp; done) | omega | (simp; omega)))
      have z1 : w.heap.size + 1 < w1.heap.size := by have := hb1.size; (try simp at this); omega
      have z1a : w.heap.size < w1.heap.size := by omega
      have A1 : w1.heap[w.heap.size]? = some (.cells (bunC b (.slice a b.blocks.length c)).toArray 28 (0, 0)) := (hb1.block _ (by first | omega | (simp; done) | (simp; omega))).trans (by repeat (first | exact heap_new' (by first | rfl | (simp; done)) | refine (Below.heap_alloc _ _ _ (by first | (simp; done) | (simp; omega))).trans ?_))
      have R1 : w1.heap[w.heap.size + 1]? = some (.cells #[.int .i64 0, .int .i64 0, .int .i64 0, .int .i64 0, .int .i64 0, .int .i64 0, .int .i64 0, .int .i64 0, .int .i64 0, .int .i64 0, .slice none 0 0, .string ⟨#[]⟩] 28 (0, 0)) := (hb1.block _ (by simp)).trans (by repeat (first | exact heap_new' (by first | rfl | (simp; done)) | refine (Below.heap_alloc _ _ _ (by first | (simp; done) | (simp; omega))).trans ?_))
      have ca := fun o => cellB A1 o
      have cr := fun o => cellB R1 o
      have fr := fun o => frozenB R1 o
      simp only [bunC] at ca
      have HA1 := Lib.hid A1
      have HR1 := Lib.hid R1
      clear A1 R1 hb1
      go_wp2_with fail
      refine (rnode_any n _).mono ?_
      rw [HND.out]
      rintro e w99 ⟨rfl, hw⟩
      subst hw
      go_wp2_with fail
      refine (rvis0_any b _ _ (HR.out.below' (by repeat' (first | with_reducible (first | refine bset ?_ ?_ | exact Below.refl _ _ | assumption | refine bdrewN ?_ _ | refine bdrew ?_ | refine balloc0 ?_ | refine balloc ?_ ?_ | (apply btrans0; rotate_left; assumption) | (apply btrans; rotate_left; assumption)) | exact Below.refl _ _ | assumption | (apply btrans0; rotate_left; assumption) | (apply btrans; rotate_left; assumption) | (simp; done) | omega | (simp; omega)))) HE.out).mono ?_
      unfold GetPost
      rw [HG.out]
      simp only
      rintro e w2 ⟨v, rfl, hb2, hri⟩
      have HRI := Lib.hid hri
      clear hri
      have hB2 : Below w.heap.size w w2 := (by repeat' (first | with_reducible (first | refine bset ?_ ?_ | exact Below.refl _ _ | assumption | refine bdrewN ?_ _ | refine bdrew ?_ | refine balloc0 ?_ | refine balloc ?_ ?_ | (apply btrans0; rotate_left; assumption) | (apply btrans; rotate_left; assumption)) | exact Below.refl _ _ | assumption | (apply btrans0; rotate_left; assumption) | (apply btrans; rotate_left; assumption) | (simp; done) | omega | (simp; omega)))
      have z2 : w.heap.size + 1 < w2.heap.size := by have := hb2.size; (try simp at this); omega
      have z2a : w.heap.size < w2.heap.size := by omega
      have A2 : w2.heap[w.heap.size]? = some (.cells (bunC b (.slice a b.blocks.length c)).toArray 28 (0, 0)) := (hb2.block _ z1a).trans HA1.out
      have R2 : w2.heap[w.heap.size + 1]? = some (.cells #[.int .i64 0, .int .i64 0, .int .i64 0, .int .i64 0, .int .i64 0, .int .i64 0, .int .i64 0, .int .i64 0, .int .i64 0, .int .i64 0, .slice none 0 0, .string ⟨#[]⟩] 28 (0, 0)) := (hb2.block _ z1).trans HR1.out
      clear ca cr fr
      have ca := fun o => cellB A2 o
      have cr := fun o => cellB R2 o
      have fr := fun o => frozenB R2 o
      simp only [bunC] at ca
      have HA2 := Lib.hid A2
      have HR2 := Lib.hid R2
      clear A2 R2 hb2
      go_wp2_with fail
      refine bodyPost_ret (v := .tuple #[.agg #[.int .i64 0, .int .i64 0, .int .i64 0, .int .i64 0, .int .i64 0, .int .i64 0, .int .i64 0, .int .i64 0, .int .i64 0, .int .i64 0, .slice none 0 0, .string ⟨#[]⟩], .int .i64 11]) (by simp [results, Try.results23, go_sem, World.cell?_setCell_same', cr, z2]) rfl ?_
      unfold FwdPost
      exact ⟨_, rfl, RBlks.nil _ _, (by repeat' (first | with_reducible (first | refine bset ?_ ?_ | exact Below.refl _ _ | assumption | refine bdrewN ?_ _ | refine bdrew ?_ | refine balloc0 ?_ | refine balloc ?_ ?_ | (apply btrans0; rotate_left; assumption) | (apply btrans; rotate_left; assumption)) | exact Below.refl _ _ | assumption | (apply btrans0; rotate_left; assumption) | (apply btrans; rotate_left; assumption) | (simp; done) | omega | (simp; omega)))⟩
    have r2 : (G == 11) = false := beq_eq_false_iff_ne.2 q2
    rw [if_neg q2] at hvs
    obtain ⟨X, XE⟩ := R
    have HX : Hid ((if l.contains n = true then (zBun, 27) else setS b 3 (listE (l ++ [n]))) = (X, XE)) := Lib.hid hvs.symm
    clear hvs hg hnd q2
    go_enter Try.func23, Try.ntmps23
    simp only [bunC]
    go_wp2_with fail
    refine (rcheck_any b _ _ (HR.out.below' (by repeat' (first | with_reducible (first | refine bset ?_ ?_ | exact Below.refl _ _ | assumption | refine bdrewN ?_ _ | refine bdrew ?_ | refine balloc0 ?_ | refine balloc ?_ ?_ | (apply btrans0; rotate_left; assumption) | (apply btrans; rotate_left; assumption)) | exact Below.refl _ _ | assumption | (apply btrans0; rotate_left; assumption) | (apply btrans; rotate_left; assumption) | (simp; done) | omega | (simp; omega)))) HF.out).mono ?_
    rw [HE.out]
    rintro e w1 ⟨rfl, hb1⟩
    have hB1 : Below w.heap.size w w1 := (by repeat' (first | with_reducible (first | refine bset ?_ ?_ | exact Below.refl _ _ | assumption | refine bdrewN ?_ _ | refine bdrew ?_ | refine balloc0 ?_ | refine balloc ?_ ?_ | (apply btrans0; rotate_left; assumption) | (apply btrans; rotate_left; assumption)) | exact Below.refl _ _ | assumption | (apply btrans0; rotate_left; assumption) | (apply btrans; rotate_left; assumption) | (simp; done) | omega | (simp; omega)))
    have z1 : w.heap.size + 1 < w1.heap.size := by have := hb1.size; (try simp at this); omega
    have z1a : w.heap.size < w1.heap.size := by omega
    have A1 : w1.heap[w.heap.size]? = some (.cells (bunC b (.slice a b.blocks.length c)).toArray 28 (0, 0)) := (hb1.block _ (by first | omega | (simp; done) | (simp; omega))).trans (by repeat (first | exact heap_new' (by first | rfl | (simp; done)) | refine (Below.heap_alloc _ _ _ (by first | (simp; done) | (simp; omega))).trans ?_))
    have R1 : w1.heap[w.heap.size + 1]? = some (.cells #[.int .i64 0, .int .i64 0, .int .i64 0, .int .i64 0, .int .i64 0, .int .i64 0, .int .i64 0, .int .i64 0, .int .i64 0, .int .i64 0, .slice none 0 0, .string ⟨#[]⟩] 28 (0, 0)) := (hb1.block _ (by simp)).trans (by repeat (first | exact heap_new' (by first | rfl | (simp; done)) | refine (Below.heap_alloc _ _ _ (by first | (simp; done) | (simp; omega))).trans ?_))
    have ca := fun o => cellB A1 o
    have cr := fun o => cellB R1 o
    have fr := fun o => frozenB R1 o
    simp only [bunC] at ca
    have HA1 := Lib.hid A1
    have HR1 := Lib.hid R1
    clear A1 R1 hb1
    go_wp2_with fail
    refine (rnode_any n _).mono ?_
    rw [HND.out]
    rintro e w99 ⟨rfl, hw⟩
    subst hw
    go_wp2_with fail
    refine (rvis0_any b _ _ (HR.out.below' (by repeat' (first | with_reducible (first | refine bset ?_ ?_ | exact Below.refl _ _ | assumption | refine bdrewN ?_ _ | refine bdrew ?_ | refine balloc0 ?_ | refine balloc ?_ ?_ | (apply btrans0; rotate_left; assumption) | (apply btrans; rotate_left; assumption)) | exact Below.refl _ _ | assumption | (apply btrans0; rotate_left; assumption) | (apply btrans; rotate_left; assumption) | (simp; done) | omega | (simp; omega)))) HE.out).mono ?_
    unfold GetPost
    rw [HG.out]
    simp only
    rintro e w2 ⟨v, rfl, hb2, hri⟩
    have HRI := Lib.hid hri
    clear hri
    have hB2 : Below w.heap.size w w2 := (by repeat' (first | with_reducible (first | refine bset ?_ ?_ | exact Below.refl _ _ | assumption | refine bdrewN ?_ _ | refine bdrew ?_ | refine balloc0 ?_ | refine balloc ?_ ?_ | (apply btrans0; rotate_left; assumption) | (apply btrans; rotate_left; assumption)) | exact Below.refl _ _ | assumption | (apply btrans0; rotate_left; assumption) | (apply btrans; rotate_left; assumption) | (simp; done) | omega | (simp; omega)))
    have z2 : w.heap.size + 1 < w2.heap.size := by have := hb2.size; (try simp at this); omega
    have z2a : w.heap.size < w2.heap.size := by omega
    have A2 : w2.heap[w.heap.size]? = some (.cells (bunC b (.slice a b.blocks.length c)).toArray 28 (0, 0)) := (hb2.block _ z1a).trans HA1.out
    have R2 : w2.heap[w.heap.size + 1]? = some (.cells #[.int .i64 0, .int .i64 0, .int .i64 0, .int .i64 0, .int .i64 0, .int .i64 0, .int .i64 0, .int .i64 0, .int .i64 0, .int .i64 0, .slice none 0 0, .string ⟨#[]⟩] 28 (0, 0)) := (hb2.block _ z1).trans HR1.out
    clear ca cr fr
    have ca := fun o => cellB A2 o
    have cr := fun o => cellB R2 o
    have fr := fun o => frozenB R2 o
    simp only [bunC] at ca
    have HA2 := Lib.hid A2
    have HR2 := Lib.hid R2
    clear A2 R2 hb2
    go_wp2_with fail
    refine (rvisit0_any b _ l _ n _ (HR.out.below' (by repeat' (first | with_reducible (first | refine bset ?_ ?_ | exact Below.refl _ _ | assumption | refine bdrewN ?_ _ | refine bdrew ?_ | refine balloc0 ?_ | refine balloc ?_ ?_ | (apply btrans0; rotate_left; assumption) | (apply btrans; rotate_left; assumption)) | exact Below.refl _ _ | assumption | (apply btrans0; rotate_left; assumption) | (apply btrans; rotate_left; assumption) | (simp; done) | omega | (simp; omega)))) HF.out HE.out (HRI.out.below' (by repeat' (first | with_reducible (first | refine bset ?_ ?_ | exact Below.refl _ _ | assumption | refine bdrewN ?_ _ | refine bdrew ?_ | refine balloc0 ?_ | refine balloc ?_ ?_ | (apply btrans0; rotate_left; assumption) | (apply btrans; rotate_left; assumption)) | exact Below.refl _ _ | assumption | (apply btrans0; rotate_left; assumption) | (apply btrans; rotate_left; assumption) | (simp; done) | omega | (simp; omega)))) HVL.out HND.out).mono ?_
    unfold FwdPost
    rw [HX.out]
    simp only
    rintro e w9 ⟨u9, rfl, hru, hb9⟩
    obtain ⟨va, vc, rfl, g1, g2, g3, g4⟩ := id hru
    have R9 := (hb9.block _ z2).trans HR2.out
    have hsp : Sep (w.heap.size + 1) (w.heap.size + 1) (.slice va X.blocks.length vc) X.blocks := Sep.box hru R9 noBlk12
    have cr9 := fun o => cellB R9 o
    have fr9 := fun o => frozenB R9 o
    have z9 : w.heap.size + 1 < w9.heap.size := by have := hb9.size; omega
    have hB9 : Below w.heap.size w w9 := (by repeat' (first | with_reducible (first | refine bset ?_ ?_ | exact Below.refl _ _ | assumption | refine bdrewN ?_ _ | refine bdrew ?_ | refine balloc0 ?_ | refine balloc ?_ ?_ | (apply btrans0; rotate_left; assumption) | (apply btrans; rotate_left; assumption)) | exact Below.refl _ _ | assumption | (apply btrans0; rotate_left; assumption) | (apply btrans; rotate_left; assumption) | (simp; done) | omega | (simp; omega)))
    have HRU := Lib.hid hru
    have HSP := Lib.hid hsp
    obtain ⟨nn, hnn⟩ : ∃ n, X.blocks.length = n := ⟨_, rfl⟩
    rw [hnn]
    rw [hnn] at HRU HSP
    have HNN := Lib.hid hnn
    clear R9 hru g1 g2 g3 g4 hnn ca cr fr hsp hb9
    simp only [bunC]
    go_wp2_with fail
    refine bodyPost_ret (v := .tuple #[.agg #[.int .i64 X.src, .int .i64 X.crt, .int .i64 X.seq, .int .i64 X.off, .int .i64 X.tot, .int .i64 X.dk, .int .i64 X.dn, .int .i64 X.life, .int .i64 X.prio, .int .i64 X.flags, .slice va nn vc, .string (B X.payload)], .int .i64 XE]) (by simp [results, Try.results23, go_sem, World.cell?_setCell_same', cr9, z9]) rfl ?_
    unfold FwdPost
    exact ⟨_, rfl, RBlks.apart HRU.out HSP.out (fun q o hq hq2 => by simp (disch := first | exact hq | exact fun e => hq e.symm | (simp; omega)) only [World.cell?_setCell_far]) (by simp), (by repeat' (first | with_reducible (first | refine bset ?_ ?_ | exact Below.refl _ _ | assumption | refine bdrewN ?_ _ | refine bdrew ?_ | refine balloc0 ?_ | refine balloc ?_ ?_ | (apply btrans0; rotate_left; assumption) | (apply btrans; rotate_left; assumption)) | exact Below.refl _ _ | assumption | (apply btrans0; rotate_left; assumption) | (apply btrans; rotate_left; assumption) | (simp; done) | omega | (simp; omega)))⟩
end Go.Proofs.Ythgokfceakbjlaa
