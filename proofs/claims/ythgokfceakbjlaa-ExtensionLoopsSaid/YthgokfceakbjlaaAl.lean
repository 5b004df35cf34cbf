/- Layer 14 (extension): Visit. -/
import Derived.Test.YthgokfceakbjlaaAj
set_option linter.unusedVariables false
set_option linter.unusedSimpArgs false
namespace Go.Proofs.Ythgokfceakbjlaa
open Go Go.RowKit
attribute [local go_sem] B_getElem B_size B_app B_extract B_get B_toList

theorem nodup_len : ∀ (n : Nat) (l : List Int), l.Nodup → (∀ x ∈ l, 0 ≤ x ∧ x < (n : Int)) → l.length ≤ n
  | 0, l, _, h => by
    cases l with
    | nil => simp
    | cons x r => have := h x (by simp); omega
  | n + 1, l, hn, h => by
    have h1 := nodup_len n (l.erase (n : Int)) (hn.erase _) (fun x hx => by
      have h2 := (hn.mem_erase_iff).1 hx
      have := h x h2.2
      omega)
    have h3 := List.length_erase (a := (n : Int)) (l := l)
    split at h3 <;> omega
theorem visB_facts {l : List Int} (h : visB l = true) : l.length ≤ 16 ∧ ∀ x ∈ l, 0 ≤ x ∧ x < 16 := by
  unfold visB at h
  simp only [Bool.and_eq_true, decide_eq_true_eq, List.all_eq_true] at h
  have h2 : ∀ x ∈ l, 0 ≤ x ∧ x < 16 := fun x hx => of_decide_eq_true (h.1 x hx)
  exact ⟨nodup_len 16 l h.2 (fun x hx => by have := h2 x hx; omega), h2⟩
theorem dat3_vis {s : List UInt8} {l : List Int} (h : dat 3 s = some l) : visB l = true := by
  unfold dat num3 at h
  rw [if_neg (by decide), if_neg (by decide)] at h
  split at h
  · cases h
  · split at h
    · rename_i h2
      injection h with h; subst h; exact h2.2
    · cases h
theorem get3_vis {b : Bun} {l : List Int} {E : Int} (h : getS b 3 = (l, E)) : visB l = true := by
  rcases getS_ok h with ⟨_, _, x, _, hd⟩ | ⟨_, rfl, _⟩
  · exact dat3_vis hd
  · decide
/-- the bundle with one more visited node -/
def visitS (b : Bun) (n : Int) : Bun × Int :=
  if (getS b 3).2 = 1 then (zBun, 1) else if nodeB n = false then (zBun, 2) else if (getS b 3).2 = 11 then (zBun, 11) else if (getS b 3).1.contains n = true then (zBun, 27) else setS b 3 (listE ((getS b 3).1 ++ [n]))
set_option maxRecDepth 100000 in
set_option maxHeartbeats 8000000 in
theorem visit_any (b : Bun) (u : Value) (n : Int) (w : World) (h : RBlks w w.heap.size u b.blocks) (hf : Fits b) :
    Calls Try.prog 22 #[.agg (bunC b u).toArray, .int .i64 n] w (BunPost (visitS b n) w) := by
  have HF := Lib.hid hf
  have HR := Lib.hid h
  obtain ⟨a, c, rfl, h1, h2, h3, h4⟩ := h
  clear h1 h2 h3 h4 hf
  obtain ⟨⟨l, E⟩, hg⟩ : ∃ q, getS b 3 = q := ⟨_, rfl⟩
  have HG := Lib.hid hg
  have hvs : visitS b n = if E = 1 then (zBun, 1) else if nodeB n = false then (zBun, 2) else if E = 11 then (zBun, 11) else if l.contains n = true then (zBun, 27) else setS b 3 (listE (l ++ [n])) := by unfold visitS; rw [hg]
  obtain ⟨R, hR⟩ : ∃ q, visitS b n = q := ⟨_, rfl⟩
  rw [hR] at hvs ⊢
  obtain ⟨nd, hnd⟩ : ∃ q, nodeB n = q := ⟨_, rfl⟩
  obtain ⟨ct, hct⟩ : ∃ q, l.contains n = q := ⟨_, rfl⟩
  rw [hnd, hct] at hvs
  have HND := Lib.hid hnd
  have HCT := Lib.hid hct
  obtain ⟨hl16, hlr⟩ := visB_facts (get3_vis hg)
  have HLR := Lib.hid hlr
  clear hlr hR
  by_cases q1 : E = 1
  · subst q1
    obtain rfl : R = (zBun, 1) := by rw [hvs, if_pos rfl]
    clear hvs hg hnd hct
    go_enter Try.func22, Try.ntmps22
    simp only [bunC]
    go_wp2_with fail
    refine (get3_any b _ _ (HR.out.below' (by repeat' (first | with_reducible (first | refine bset ?_ ?_ | exact Below.refl _ _ | assumption | refine bdrewN ?_ _ | refine bdrew ?_ | refine balloc0 ?_ | refine balloc ?_ ?_ | (apply btrans0; rotate_left; assumption) | (apply btrans; rotate_left; assumption)) | exact Below.refl _ _ | assumption | (apply btrans0; rotate_left; assumption) | (apply btrans; rotate_left; assumption) | (simp; done) | omega | (simp; omega)))) HF.out).mono ?_
    unfold GetPost
    rw [HG.out]
    simp only
    rintro e w1 ⟨v, rfl, hb1, hri⟩
    have hB1 : Below w.heap.size w w1 := (by repeat' (first | with_reducible (first | refine bset ?_ ?_ | exact Below.refl _ _ | assumption | refine bdrewN ?_ _ | refine bdrew ?_ | refine balloc0 ?_ | refine balloc ?_ ?_ | (apply btrans0; rotate_left; assumption) | (apply btrans; rotate_left; assumption)) | exact Below.refl _ _ | assumption | (apply btrans0; rotate_left; assumption) | (apply btrans; rotate_left; assumption) | (simp; done) | omega | (simp; omega)))
    have z1 : w.heap.size + 1 < w1.heap.size := by have := hb1.size; simp at this; omega
    have z1a : w.heap.size < w1.heap.size := by omega
    have A1 : w1.heap[w.heap.size]? = some (.cells (bunC b (.slice a b.blocks.length c)).toArray 28 (0, 0)) := (hb1.block _ (by simp; omega)).trans ((Below.heap_alloc _ _ _ (by simp)).trans heap_new)
    have R1 : w1.heap[w.heap.size + 1]? = some (.cells #[.int .i64 0, .int .i64 0, .int .i64 0, .int .i64 0, .int .i64 0, .int .i64 0, .int .i64 0, .int .i64 0, .int .i64 0, .int .i64 0, .slice none 0 0, .string ⟨#[]⟩] 28 (0, 0)) := (hb1.block _ (by simp)).trans (heap_new' (by simp))
    have ca := fun o => cellB A1 o
    have cr := fun o => cellB R1 o
    have fr := fun o => frozenB R1 o
    simp only [bunC] at ca
    have HA1 := Lib.hid A1
    have HR1 := Lib.hid R1
    have HRI := Lib.hid hri
    clear A1 R1 hb1 hri
    go_wp2_with fail
    refine bodyPost_ret (v := .tuple #[.agg #[.int .i64 0, .int .i64 0, .int .i64 0, .int .i64 0, .int .i64 0, .int .i64 0, .int .i64 0, .int .i64 0, .int .i64 0, .int .i64 0, .slice none 0 0, .string ⟨#[]⟩], .int .i64 1]) (by simp [results, Try.results22, go_sem, World.cell?_setCell_same', cr, z1]) rfl ?_
    unfold BunPost
    exact ⟨_, rfl, RBlks.nil _ _, RFrom.nil _, (by repeat' (first | with_reducible (first | refine bset ?_ ?_ | exact Below.refl _ _ | assumption | refine bdrewN ?_ _ | refine bdrew ?_ | refine balloc0 ?_ | refine balloc ?_ ?_ | (apply btrans0; rotate_left; assumption) | (apply btrans; rotate_left; assumption)) | exact Below.refl _ _ | assumption | (apply btrans0; rotate_left; assumption) | (apply btrans; rotate_left; assumption) | (simp; done) | omega | (simp; omega)))⟩
  have r1 : (E == 1) = false := beq_eq_false_iff_ne.2 q1
  rw [if_neg q1] at hvs
  cases nd with
  | false =>
    obtain rfl : R = (zBun, 2) := by rw [hvs, if_pos rfl]
    clear hvs hg hnd hct q1
    go_enter Try.func22, Try.ntmps22
    simp only [bunC]
    go_wp2_with fail
    refine (get3_any b _ _ (HR.out.below' (by repeat' (first | with_reducible (first | refine bset ?_ ?_ | exact Below.refl _ _ | assumption | refine bdrewN ?_ _ | refine bdrew ?_ | refine balloc0 ?_ | refine balloc ?_ ?_ | (apply btrans0; rotate_left; assumption) | (apply btrans; rotate_left; assumption)) | exact Below.refl _ _ | assumption | (apply btrans0; rotate_left; assumption) | (apply btrans; rotate_left; assumption) | (simp; done) | omega | (simp; omega)))) HF.out).mono ?_
    unfold GetPost
    rw [HG.out]
    simp only
    rintro e w1 ⟨v, rfl, hb1, hri⟩
    have hB1 : Below w.heap.size w w1 := (by repeat' (first | with_reducible (first | refine bset ?_ ?_ | exact Below.refl _ _ | assumption | refine bdrewN ?_ _ | refine bdrew ?_ | refine balloc0 ?_ | refine balloc ?_ ?_ | (apply btrans0; rotate_left; assumption) | (apply btrans; rotate_left; assumption)) | exact Below.refl _ _ | assumption | (apply btrans0; rotate_left; assumption) | (apply btrans; rotate_left; assumption) | (simp; done) | omega | (simp; omega)))
    have z1 : w.heap.size + 1 < w1.heap.size := by have := hb1.size; simp at this; omega
    have z1a : w.heap.size < w1.heap.size := by omega
    have A1 : w1.heap[w.heap.size]? = some (.cells (bunC b (.slice a b.blocks.length c)).toArray 28 (0, 0)) := (hb1.block _ (by simp; omega)).trans ((Below.heap_alloc _ _ _ (by simp)).trans heap_new)
    have R1 : w1.heap[w.heap.size + 1]? = some (.cells #[.int .i64 0, .int .i64 0, .int .i64 0, .int .i64 0, .int .i64 0, .int .i64 0, .int .i64 0, .int .i64 0, .int .i64 0, .int .i64 0, .slice none 0 0, .string ⟨#[]⟩] 28 (0, 0)) := (hb1.block _ (by simp)).trans (heap_new' (by simp))
    have ca := fun o => cellB A1 o
    have cr := fun o => cellB R1 o
    have fr := fun o => frozenB R1 o
    simp only [bunC] at ca
    have HA1 := Lib.hid A1
    have HR1 := Lib.hid R1
    have HRI := Lib.hid hri
    clear A1 R1 hb1 hri
    go_wp2_with fail
    refine (node_any n _).mono ?_
    rw [HND.out]
    rintro e w2 ⟨rfl, rfl⟩
    go_wp2_with fail
    refine bodyPost_ret (v := .tuple #[.agg #[.int .i64 0, .int .i64 0, .int .i64 0, .int .i64 0, .int .i64 0, .int .i64 0, .int .i64 0, .int .i64 0, .int .i64 0, .int .i64 0, .slice none 0 0, .string ⟨#[]⟩], .int .i64 2]) (by simp [results, Try.results22, go_sem, World.cell?_setCell_same', cr, z1]) rfl ?_
    unfold BunPost
    exact ⟨_, rfl, RBlks.nil _ _, RFrom.nil _, (by repeat' (first | with_reducible (first | refine bset ?_ ?_ | exact Below.refl _ _ | assumption | refine bdrewN ?_ _ | refine bdrew ?_ | refine balloc0 ?_ | refine balloc ?_ ?_ | (apply btrans0; rotate_left; assumption) | (apply btrans; rotate_left; assumption)) | exact Below.refl _ _ | assumption | (apply btrans0; rotate_left; assumption) | (apply btrans; rotate_left; assumption) | (simp; done) | omega | (simp; omega)))⟩
  | true =>
    rw [if_neg (by simp)] at hvs
    by_cases q2 : E = 11
    · subst q2
      obtain rfl : R = (zBun, 11) := by rw [hvs, if_pos rfl]
      clear hvs hg hnd hct q1
      go_enter Try.func22, Try.ntmps22
      simp only [bunC]
      go_wp2_with fail
      refine (get3_any b _ _ (HR.out.below' (by repeat' (first | with_reducible (first | refine bset ?_ ?_ | exact Below.refl _ _ | assumption | refine bdrewN ?_ _ | refine bdrew ?_ | refine balloc0 ?_ | refine balloc ?_ ?_ | (apply btrans0; rotate_left; assumption) | (apply btrans; rotate_left; assumption)) | exact Below.refl _ _ | assumption | (apply btrans0; rotate_left; assumption) | (apply btrans; rotate_left; assumption) | (simp; done) | omega | (simp; omega)))) HF.out).mono ?_
      unfold GetPost
      rw [HG.out]
      simp only
      rintro e w1 ⟨v, rfl, hb1, hri⟩
      have hB1 : Below w.heap.size w w1 := (by repeat' (first | with_reducible (first | refine bset ?_ ?_ | exact Below.refl _ _ | assumption | refine bdrewN ?_ _ | refine bdrew ?_ | refine balloc0 ?_ | refine balloc ?_ ?_ | (apply btrans0; rotate_left; assumption) | (apply btrans; rotate_left; assumption)) | exact Below.refl _ _ | assumption | (apply btrans0; rotate_left; assumption) | (apply btrans; rotate_left; assumption) | (simp; done) | omega | (simp; omega)))
      have z1 : w.heap.size + 1 < w1.heap.size := by have := hb1.size; simp at this; omega
      have z1a : w.heap.size < w1.heap.size := by omega
      have A1 : w1.heap[w.heap.size]? = some (.cells (bunC b (.slice a b.blocks.length c)).toArray 28 (0, 0)) := (hb1.block _ (by simp; omega)).trans ((Below.heap_alloc _ _ _ (by simp)).trans heap_new)
      have R1 : w1.heap[w.heap.size + 1]? = some (.cells #[.int .i64 0, .int .i64 0, .int .i64 0, .int .i64 0, .int .i64 0, .int .i64 0, .int .i64 0, .int .i64 0, .int .i64 0, .int .i64 0, .slice none 0 0, .string ⟨#[]⟩] 28 (0, 0)) := (hb1.block _ (by simp)).trans (heap_new' (by simp))
      have ca := fun o => cellB A1 o
      have cr := fun o => cellB R1 o
      have fr := fun o => frozenB R1 o
      simp only [bunC] at ca
      have HA1 := Lib.hid A1
      have HR1 := Lib.hid R1
      have HRI := Lib.hid hri
      clear A1 R1 hb1 hri
      go_wp2_with fail
      refine (node_any n _).mono ?_
      rw [HND.out]
      rintro e w2 ⟨rfl, rfl⟩
      go_wp2_with fail
      refine bodyPost_ret (v := .tuple #[.agg #[.int .i64 0, .int .i64 0, .int .i64 0, .int .i64 0, .int .i64 0, .int .i64 0, .int .i64 0, .int .i64 0, .int .i64 0, .int .i64 0, .slice none 0 0, .string ⟨#[]⟩], .int .i64 11]) (by simp [results, Try.results22, go_sem, World.cell?_setCell_same', cr, z1]) rfl ?_
      unfold BunPost
      exact ⟨_, rfl, RBlks.nil _ _, RFrom.nil _, (by repeat' (first | with_reducible (first | refine bset ?_ ?_ | exact Below.refl _ _ | assumption | refine bdrewN ?_ _ | refine bdrew ?_ | refine balloc0 ?_ | refine balloc ?_ ?_ | (apply btrans0; rotate_left; assumption) | (apply btrans; rotate_left; assumption)) | exact Below.refl _ _ | assumption | (apply btrans0; rotate_left; assumption) | (apply btrans; rotate_left; assumption) | (simp; done) | omega | (simp; omega)))⟩
    have r2 : (E == 11) = false := beq_eq_false_iff_ne.2 q2
    rw [if_neg q2] at hvs
    cases ct with
    | true =>
      obtain rfl : R = (zBun, 27) := by rw [hvs, if_pos rfl]
      clear hvs hg hnd hct q1 q2
      go_enter Try.func22, Try.ntmps22
      simp only [bunC]
      go_wp2_with fail
      refine (get3_any b _ _ (HR.out.below' (by repeat' (first | with_reducible (first | refine bset ?_ ?_ | exact Below.refl _ _ | assumption | refine bdrewN ?_ _ | refine bdrew ?_ | refine balloc0 ?_ | refine balloc ?_ ?_ | (apply btrans0; rotate_left; assumption) | (apply btrans; rotate_left; assumption)) | exact Below.refl _ _ | assumption | (apply btrans0; rotate_left; assumption) | (apply btrans; rotate_left; assumption) | (simp; done) | omega | (simp; omega)))) HF.out).mono ?_
      unfold GetPost
      rw [HG.out]
      simp only
      rintro e w1 ⟨v, rfl, hb1, hri⟩
      have hB1 : Below w.heap.size w w1 := (by repeat' (first | with_reducible (first | refine bset ?_ ?_ | exact Below.refl _ _ | assumption | refine bdrewN ?_ _ | refine bdrew ?_ | refine balloc0 ?_ | refine balloc ?_ ?_ | (apply btrans0; rotate_left; assumption) | (apply btrans; rotate_left; assumption)) | exact Below.refl _ _ | assumption | (apply btrans0; rotate_left; assumption) | (apply btrans; rotate_left; assumption) | (simp; done) | omega | (simp; omega)))
      have z1 : w.heap.size + 1 < w1.heap.size := by have := hb1.size; simp at this; omega
      have z1a : w.heap.size < w1.heap.size := by omega
      have A1 : w1.heap[w.heap.size]? = some (.cells (bunC b (.slice a b.blocks.length c)).toArray 28 (0, 0)) := (hb1.block _ (by simp; omega)).trans ((Below.heap_alloc _ _ _ (by simp)).trans heap_new)
      have R1 : w1.heap[w.heap.size + 1]? = some (.cells #[.int .i64 0, .int .i64 0, .int .i64 0, .int .i64 0, .int .i64 0, .int .i64 0, .int .i64 0, .int .i64 0, .int .i64 0, .int .i64 0, .slice none 0 0, .string ⟨#[]⟩] 28 (0, 0)) := (hb1.block _ (by simp)).trans (heap_new' (by simp))
      have ca := fun o => cellB A1 o
      have cr := fun o => cellB R1 o
      have fr := fun o => frozenB R1 o
      simp only [bunC] at ca
      have HA1 := Lib.hid A1
      have HR1 := Lib.hid R1
      have HRI := Lib.hid hri
      clear A1 R1 hb1 hri
      go_wp2_with fail
      refine (node_any n _).mono ?_
      rw [HND.out]
      rintro e w2 ⟨rfl, rfl⟩
      go_wp2_with fail
      refine (contains_any l _ n _ HRI.out).mono ?_
      rw [HCT.out]
      rintro e w2 ⟨rfl, rfl⟩
      go_wp2_with fail
      refine bodyPost_ret (v := .tuple #[.agg #[.int .i64 0, .int .i64 0, .int .i64 0, .int .i64 0, .int .i64 0, .int .i64 0, .int .i64 0, .int .i64 0, .int .i64 0, .int .i64 0, .slice none 0 0, .string ⟨#[]⟩], .int .i64 27]) (by simp [results, Try.results22, go_sem, World.cell?_setCell_same', cr, z1]) rfl ?_
      unfold BunPost
      exact ⟨_, rfl, RBlks.nil _ _, RFrom.nil _, (by repeat' (first | with_reducible (first | refine bset ?_ ?_ | exact Below.refl _ _ | assumption | refine bdrewN ?_ _ | refine bdrew ?_ | refine balloc0 ?_ | refine balloc ?_ ?_ | (apply btrans0; rotate_left; assumption) | (apply btrans; rotate_left; assumption)) | exact Below.refl _ _ | assumption | (apply btrans0; rotate_left; assumption) | (apply btrans; rotate_left; assumption) | (simp; done) | omega | (simp; omega)))⟩
    | false =>
      rw [if_neg (by simp)] at hvs
      have hn16 : 0 ≤ n ∧ n < 16 := of_decide_eq_true hnd
      have HRG : Hid (IRange (l ++ [n])) := Lib.hid (fun m hm => by
        rcases List.mem_append.1 hm with hm | hm
        · have := HLR.out m hm; omega
        · rw [List.mem_singleton.1 hm]; omega)
      obtain ⟨S, hS⟩ : ∃ q, listE (l ++ [n]) = q := ⟨_, rfl⟩
      have hSl : S.length ≤ 1000 := by
        rw [← hS]; unfold listE
        have h1 := (intE_len ((l ++ [n]).length : Int)).2
        have h2 := flat_size (l ++ [n])
        rw [List.length_append]
        simp only [List.length_append, List.length_singleton] at h1 h2 ⊢
        omega
      rw [hS] at hvs
      obtain ⟨X, XE⟩ := R
      have HS := Lib.hid hS
      have HX : Hid (setS b 3 S = (X, XE)) := Lib.hid hvs.symm
      obtain ⟨i0, hin, hz0, hz1, hz2⟩ := info_parts infoInt
      clear hvs hg hnd hct q1 q2 hS
      go_enter Try.func22, Try.ntmps22
      simp only [bunC]
      go_wp2_with fail
      refine (get3_any b _ _ (HR.out.below' (by repeat' (first | with_reducible (first | refine bset ?_ ?_ | exact Below.refl _ _ | assumption | refine bdrewN ?_ _ | refine bdrew ?_ | refine balloc0 ?_ | refine balloc ?_ ?_ | (apply btrans0; rotate_left; assumption) | (apply btrans; rotate_left; assumption)) | exact Below.refl _ _ | assumption | (apply btrans0; rotate_left; assumption) | (apply btrans; rotate_left; assumption) | (simp; done) | omega | (simp; omega)))) HF.out).mono ?_
      unfold GetPost
      rw [HG.out]
      simp only
      rintro e w1 ⟨v, rfl, hb1, hri⟩
      have hB1 : Below w.heap.size w w1 := (by repeat' (first | with_reducible (first | refine bset ?_ ?_ | exact Below.refl _ _ | assumption | refine bdrewN ?_ _ | refine bdrew ?_ | refine balloc0 ?_ | refine balloc ?_ ?_ | (apply btrans0; rotate_left; assumption) | (apply btrans; rotate_left; assumption)) | exact Below.refl _ _ | assumption | (apply btrans0; rotate_left; assumption) | (apply btrans; rotate_left; assumption) | (simp; done) | omega | (simp; omega)))
      have z1 : w.heap.size + 1 < w1.heap.size := by have := hb1.size; simp at this; omega
      have z1a : w.heap.size < w1.heap.size := by omega
      have A1 : w1.heap[w.heap.size]? = some (.cells (bunC b (.slice a b.blocks.length c)).toArray 28 (0, 0)) := (hb1.block _ (by simp; omega)).trans ((Below.heap_alloc _ _ _ (by simp)).trans heap_new)
      have R1 : w1.heap[w.heap.size + 1]? = some (.cells #[.int .i64 0, .int .i64 0, .int .i64 0, .int .i64 0, .int .i64 0, .int .i64 0, .int .i64 0, .int .i64 0, .int .i64 0, .int .i64 0, .slice none 0 0, .string ⟨#[]⟩] 28 (0, 0)) := (hb1.block _ (by simp)).trans (heap_new' (by simp))
      have ca := fun o => cellB A1 o
      have cr := fun o => cellB R1 o
      have fr := fun o => frozenB R1 o
      simp only [bunC] at ca
      have HA1 := Lib.hid A1
      have HR1 := Lib.hid R1
      have HRI := Lib.hid hri
      clear A1 R1 hb1 hri
      go_wp2_with fail
      refine (node_any n _).mono ?_
      rw [HND.out]
      rintro e w2 ⟨rfl, rfl⟩
      go_wp2_with fail
      refine (contains_any l _ n _ HRI.out).mono ?_
      rw [HCT.out]
      rintro e w2 ⟨rfl, rfl⟩
      go_wp2_with fail
      refine (cloneInt_any l _ _ HRI.out (by omega)).mono ?_
      unfold CloneIPost
      rintro e w3 ⟨vc3, rfl, hb3, hown3⟩
      have hB3 : Below w.heap.size w w3 := (by repeat' (first | with_reducible (first | refine bset ?_ ?_ | exact Below.refl _ _ | assumption | refine bdrewN ?_ _ | refine bdrew ?_ | refine balloc0 ?_ | refine balloc ?_ ?_ | (apply btrans0; rotate_left; assumption) | (apply btrans; rotate_left; assumption)) | exact Below.refl _ _ | assumption | (apply btrans0; rotate_left; assumption) | (apply btrans; rotate_left; assumption) | (simp; done) | omega | (simp; omega)))
      have z3 : w2.heap.size ≤ w3.heap.size := hb3.size
      have hb23 : Below w2.heap.size w2 w3 := hb3
      clear ca cr fr hb3
      go_wp2_with (at_builtin; refine wpList_append_own _ rfl _ _ _ rfl w2.heap.size 3 i0 _ 1 8 Try.underlying36 hin hz0 hz1 hz2 rfl (by omega) _ _ _ rfl (hown3.alloc _) ⟨w3.heap.size, 0, none⟩ 1 1 [.int .i64 n] rfl rfl (news_one heap_new) (by simp [Value.oneCell']) (by simp only [maxLen]; omega) (by omega) (by simp; omega) ?_; intro v4 w4 hO4 hg4 _)
      have hB4 : Below w2.heap.size w2 w4 := (balloc hb23 (by omega)).grown hg4 (by simp; omega) (fun q hq => (hown3.lt q hq).1)
      have hr4 : RInts w4 w4.heap.size v4 (l ++ [n]) := RInts.of_own (n := (l ++ [n]).length) (by simpa [ints] using hO4)
      clear hO4 hg4 hown3
      refine (list_any (l ++ [n]) _ _ hr4 (by simp; omega) HRG.out).mono ?_
      rw [HS.out]
      rintro e w5 ⟨rfl, hb5⟩
      have hb25 : Below w2.heap.size w2 w5 := (by repeat' (first | with_reducible (first | refine bset ?_ ?_ | exact Below.refl _ _ | assumption | refine bdrewN ?_ _ | refine bdrew ?_ | refine balloc0 ?_ | refine balloc ?_ ?_ | (apply btrans0; rotate_left; assumption) | (apply btrans; rotate_left; assumption)) | exact Below.refl _ _ | assumption | (apply btrans0; rotate_left; assumption) | (apply btrans; rotate_left; assumption) | (simp; done) | omega | (simp; omega)))
      have z5 : w.heap.size + 1 < w5.heap.size := by have := hb25.size; omega
      have z5a : w.heap.size < w5.heap.size := by omega
      have hB5 : Below w.heap.size w w5 := (by repeat' (first | with_reducible (first | refine bset ?_ ?_ | exact Below.refl _ _ | assumption | refine bdrewN ?_ _ | refine bdrew ?_ | refine balloc0 ?_ | refine balloc ?_ ?_ | (apply btrans0; rotate_left; assumption) | (apply btrans; rotate_left; assumption)) | exact Below.refl _ _ | assumption | (apply btrans0; rotate_left; assumption) | (apply btrans; rotate_left; assumption) | (simp; done) | omega | (simp; omega)))
      have A5 := (hb25.block _ z1a).trans HA1.out
      have R5 := (hb25.block _ z1).trans HR1.out
      have ca := fun o => cellB A5 o
      simp only [bunC] at ca
      have HR5 := Lib.hid R5
      clear A5 R5 hr4 hb5
      go_wp2_with fail
      refine (set_any b _ 3 S _ (HR.out.below' (by repeat' (first | with_reducible (first | refine bset ?_ ?_ | exact Below.refl _ _ | assumption | refine bdrewN ?_ _ | refine bdrew ?_ | refine balloc0 ?_ | refine balloc ?_ ?_ | (apply btrans0; rotate_left; assumption) | (apply btrans; rotate_left; assumption)) | exact Below.refl _ _ | assumption | (apply btrans0; rotate_left; assumption) | (apply btrans; rotate_left; assumption) | (simp; done) | omega | (simp; omega)))) HF.out (by omega)).mono ?_
      unfold BunPost
      rw [HX.out]
      simp only
      rintro e w6 ⟨u6, rfl, hru, hrf, hb6⟩
      obtain ⟨va, vc, rfl, g1, g2, g3, g4⟩ := id hru
      have R6 := (hb6.block _ z5).trans HR5.out
      have cr := fun o => cellB R6 o
      have fr := fun o => frozenB R6 o
      have z6 : w.heap.size + 1 < w6.heap.size := by have := hb6.size; omega
      have hB6 : Below w.heap.size w w6 := (by repeat' (first | with_reducible (first | refine bset ?_ ?_ | exact Below.refl _ _ | assumption | refine bdrewN ?_ _ | refine bdrew ?_ | refine balloc0 ?_ | refine balloc ?_ ?_ | (apply btrans0; rotate_left; assumption) | (apply btrans; rotate_left; assumption)) | exact Below.refl _ _ | assumption | (apply btrans0; rotate_left; assumption) | (apply btrans; rotate_left; assumption) | (simp; done) | omega | (simp; omega)))
      have HRU := Lib.hid hru
      have HRF := Lib.hid hrf
      obtain ⟨nn, hnn⟩ : ∃ n, X.blocks.length = n := ⟨_, rfl⟩
      rw [hnn]
      rw [hnn] at HRU HRF
      have HNN := Lib.hid hnn
      clear R6 hru hrf g1 g2 g3 g4 hnn ca
      simp only [bunC]
      go_wp2_with fail
      refine bodyPost_ret (v := .tuple #[.agg #[.int .i64 X.src, .int .i64 X.crt, .int .i64 X.seq, .int .i64 X.off, .int .i64 X.tot, .int .i64 X.dk, .int .i64 X.dn, .int .i64 X.life, .int .i64 X.prio, .int .i64 X.flags, .slice va nn vc, .string (B X.payload)], .int .i64 XE]) (by simp [results, Try.results22, go_sem, World.cell?_setCell_same', cr, z6]) rfl ?_
      unfold BunPost
      exact ⟨_, rfl, RBlks.fresh (B := w.heap.size + 2) HRU.out (fun a n c e => by have := HRF.out a n c e; omega) (fun q o hq hq2 => by simp (disch := (simp; omega)) only [World.cell?_setCell_far]) (by simp), fun a n c e => by have := HRF.out a n c e; omega, (by repeat' (first | with_reducible (first | refine bset ?_ ?_ | exact Below.refl _ _ | assumption | refine bdrewN ?_ _ | refine bdrew ?_ | refine balloc0 ?_ | refine balloc ?_ ?_ | (apply btrans0; rotate_left; assumption) | (apply btrans; rotate_left; assumption)) | exact Below.refl _ _ | assumption | (apply btrans0; rotate_left; assumption) | (apply btrans; rotate_left; assumption) | (simp; done) | omega | (simp; omega)))⟩
end Go.Proofs.Ythgokfceakbjlaa
