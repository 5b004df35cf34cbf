/-
  Proved: mailboatlaw14.ExtensionSets returns true for every input, and leaves its arguments as they were. No condition.
-/
import Derived.Test.YthgokfceakbjlaaRows
import Derived.Test.YthgokfceakbjlaaJa
import Derived.Test.YthgokfceakbjlaaJn
import Derived.Test.YthgokfceakbjlaaIl
import Derived.Test.YthgokfceakbjlaaIj
import Derived.Test.YthgokfceakbjlaaIb
set_option linter.unusedVariables false
set_option linter.unusedSimpArgs false
namespace Go.Proofs.Ythgokfceakbjlaa.extensionSets
open Go Go.ChangeShapes Go.WideShapes Go.ChangeAt Go.RowKit Go.Joins Go.Proofs.Ythgokfceakbjlaa
attribute [local go_sem] B_getElem B_size B_app B_extract B_get B_toList

theorem own : ownKnob Try.prog.godebug = none := by kernel_rfl

attribute [local go_sem] bunC
theorem setAge_zero {b p : Bun} {x : Int} (h : setAgeS b x = (p, 0)) : chkE b = 0 ∧ 0 ≤ x ∧ x ≤ 1099511627776 ∧ setS b 1 (intE x) = (p, 0) := by
  unfold setAgeS at h
  split at h
  · simp at h
  · rename_i h1
    split at h
    · simp at h
    · rename_i h2; exact ⟨Decidable.not_not.1 h1, by omega, by omega, h⟩
theorem setHop_zero {b p : Bun} {x y : Int} (h : setHopS b x y = (p, 0)) : chkE b = 0 ∧ 1 ≤ x ∧ x ≤ 255 ∧ 0 ≤ y ∧ y ≤ x ∧ setS b 2 (intE x ++ intE y) = (p, 0) := by
  unfold setHopS at h
  split at h
  · simp at h
  · rename_i h1
    split at h
    · simp at h
    · rename_i h2; exact ⟨Decidable.not_not.1 h1, by omega, by omega, by omega, by omega, h⟩
theorem age_set {b p : Bun} {x : Int} (h : setAgeS b x = (p, 0)) : chkE p = 0 ∧ setAgeS p x = (p, 0) ∧ ageS p = (x, 0) := by
  obtain ⟨h1, h2, h3, h4⟩ := setAge_zero h
  obtain ⟨c, _, g, _⟩ := Stp.set h1 (by decide) (by decide) (len1 x) h4 (dat1_enc h2 h3)
  exact ⟨c, by rw [setAgeS_ok c h2 h3]; exact set_again h1 (by decide) (by decide) (len1 x) h4, ageS_eq g⟩
theorem hop_set {b p : Bun} {x y : Int} (h : setHopS b x y = (p, 0)) : chkE p = 0 ∧ setHopS p x y = (p, 0) ∧ hopS p = (x, y, 0) := by
  obtain ⟨h1, h2, h3, h4, h5, h6⟩ := setHop_zero h
  obtain ⟨c, _, g, _⟩ := Stp.set h1 (by decide) (by decide) (len2 x y) h6 (dat2_enc h2 h3 h4 h5)
  exact ⟨c, by rw [setHopS_ok c h2 h3 h4 h5]; exact set_again h1 (by decide) (by decide) (len2 x y) h6, hopS_eq g⟩
theorem set_both {b p q : Bun} {x l c : Int} (h : setAgeS b x = (p, 0)) (k : setHopS b l c = (q, 0)) : setHopS p l c = setAgeS q x := by
  obtain ⟨h1, h2, h3, h4⟩ := setAge_zero h
  obtain ⟨_, k2, k3, k4, k5, k6⟩ := setHop_zero k
  rw [setHopS_ok (age_set h).1 k2 k3 k4 k5, setAgeS_ok (hop_set k).1 h2 h3]
  exact set_comm h1 (by decide) (by decide) (by decide) (by decide) (by decide) (len1 x) (len2 l c) h4 k6
set_option maxRecDepth 100000 in
set_option maxHeartbeats 16000000 in
theorem walk11 (b : Bun) (u : Value) (x l c : Int) (w : World) (hr : RBlks w w.heap.size u b.blocks) (hf : Fits b) (P : Bun) (hP : setAgeS b x = (P, 0)) (Q : Bun) (hQ : setHopS b l c = (Q, 0)) :
    Calls Try.prog 5 #[.agg (bunC b u).toArray, .int .i64 x, .int .i64 l, .int .i64 c] w (Says w) := by
  have HP := Lib.hid hP
  have HQ := Lib.hid hQ
  obtain ⟨_, pa, pg⟩ := age_set hP
  have fp := fits_age (x := x) hf
  rw [hP] at fp
  have HPA := Lib.hid pa
  have HPG := Lib.hid pg
  have FP := Lib.hid fp
  obtain ⟨_, qa, qg⟩ := hop_set hQ
  have fq := fits_hop (x := l) (y := c) hf
  rw [hQ] at fq
  have HQA := Lib.hid qa
  have HQG := Lib.hid qg
  have FQ := Lib.hid fq
  have r := set_both hP hQ
  obtain ⟨⟨R, RE⟩, r2⟩ : ∃ q, setAgeS Q x = q := ⟨_, rfl⟩
  rw [r2] at r
  have HR1 := Lib.hid r
  have HR2 := Lib.hid r2
  clear r r2
  clear hP hQ pa pg fp qa qg fq
  obtain ⟨ua, uc, rfl, _⟩ := id hr
  have HR := Lib.hid hr
  have HF := Lib.hid hf
  clear hr hf
  go_enter Try.func5, Try.ntmps5
  simp only [bunC]
  go_wp2_with fail
  refine (bgreat_any b _ _ (HR.out.below' (balloc0 (Below.refl _ _))) HF.out).mono ?_
  rintro e w1 ⟨g, rfl, hb1⟩
  have hB1 : Below w.heap.size w w1 := btrans0 (balloc0 (Below.refl _ _)) hb1
  have y1 := hb1.size
  (try simp at y1)
  have zb1 : w.heap.size < w1.heap.size := by omega
  have Ab : w1.heap[w.heap.size]? = some (.cells (bunC b (.slice ua b.blocks.length uc)).toArray 28 (0, 0)) := (hb1.block _ (by first | exact zb0 | (simp; done) | (simp; omega) | omega)).trans (by repeat (first | exact HAb.out | exact heap_new | exact heap_new' (by first | rfl | (simp; done)) | refine (Below.heap_alloc _ _ _ (by first | omega | (simp; done) | (simp; omega))).trans ?_))
  have cab := fun o => cellB Ab o
  have HAb := Lib.hid Ab
  simp only [bunC] at cab
  clear Ab
  clear hb1
  cases g
  case true =>
    go_wp2_with fail
    refine (awake_any _).mono ?_
    rintro e w99 ⟨rfl, hb99⟩
    go_wp2
    go_ret
    exact ⟨rfl, (by repeat' (first | with_reducible (first | refine bset ?_ ?_ | exact Below.refl _ _ | assumption | refine bdrewN ?_ _ | refine bdrew ?_ | refine balloc0 ?_ | refine balloc ?_ ?_ | (apply btrans0; rotate_left; assumption) | (apply btrans; rotate_left; assumption)) | exact Below.refl _ _ | assumption | (apply btrans0; rotate_left; assumption) | (apply btrans; rotate_left; assumption) | (simp; done) | omega | (simp; omega)))⟩
  go_wp2_with fail
  refine (setAge_any b _ x _ (HR.out.below' (hB1)) HF.out).mono ?_
  unfold BunPost
  rw [HP.out]
  simp only
  rintro e w2 ⟨v2, rfl, hv2, hrf, hb2⟩
  have hB2 : Below w.heap.size w w2 := btrans0 (hB1) hb2
  have y2 := hb2.size
  (try simp at y2)
  have zb2 : w.heap.size < w2.heap.size := by omega
  have Ab : w2.heap[w.heap.size]? = some (.cells (bunC b (.slice ua b.blocks.length uc)).toArray 28 (0, 0)) := (hb2.block _ (by first | exact zb1 | (simp; done) | (simp; omega) | omega)).trans (by repeat (first | exact HAb.out | exact heap_new | exact heap_new' (by first | rfl | (simp; done)) | refine (Below.heap_alloc _ _ _ (by first | omega | (simp; done) | (simp; omega))).trans ?_))
  clear cab HAb
  have cab := fun o => cellB Ab o
  have HAb := Lib.hid Ab
  simp only [bunC] at cab
  clear Ab
  obtain ⟨va2, vc2, rfl, _⟩ := id hv2
  have HV2 := Lib.hid hv2
  clear hv2 hrf
  clear hb2
  go_wp2_with fail
  refine (setHops_any b _ l c _ (HR.out.below' (balloc0 (hB2))) HF.out).mono ?_
  unfold BunPost
  rw [HQ.out]
  simp only
  rintro e w3 ⟨v3, rfl, hv3, hrf, hb3⟩
  have hB3 : Below w.heap.size w w3 := btrans0 (balloc0 (hB2)) hb3
  have hK2_3 : Below w2.heap.size w2 w3 := btrans0 (balloc0 (Below.refl _ _)) hb3
  have y3 := hb3.size
  (try simp at y3)
  have zb3 : w.heap.size < w3.heap.size := by omega
  have Ab : w3.heap[w.heap.size]? = some (.cells (bunC b (.slice ua b.blocks.length uc)).toArray 28 (0, 0)) := (hb3.block _ (by first | exact zb2 | (simp; done) | (simp; omega) | omega)).trans (by repeat (first | exact HAb.out | exact heap_new | exact heap_new' (by first | rfl | (simp; done)) | refine (Below.heap_alloc _ _ _ (by first | omega | (simp; done) | (simp; omega))).trans ?_))
  clear cab HAb
  have cab := fun o => cellB Ab o
  have HAb := Lib.hid Ab
  simp only [bunC] at cab
  clear Ab
  have zP3 : w2.heap.size < w3.heap.size := by omega
  have AP : w3.heap[w2.heap.size]? = some (.cells (bunC P (.slice va2 P.blocks.length vc2)).toArray 28 (0, 0)) := (hb3.block _ (by first | exact zP2 | (simp; done) | (simp; omega) | omega)).trans (by repeat (first | exact HAP.out | exact heap_new | exact heap_new' (by first | rfl | (simp; done)) | refine (Below.heap_alloc _ _ _ (by first | omega | (simp; done) | (simp; omega))).trans ?_))
  have caP := fun o => cellB AP o
  have HAP := Lib.hid AP
  simp only [bunC] at caP
  clear AP
  obtain ⟨va3, vc3, rfl, _⟩ := id hv3
  have HV3 := Lib.hid hv3
  clear hv3 hrf
  clear hb3
  go_wp2_with fail
  refine (setAge_any P _ x _ (HV2.out.below' (balloc0 (hK2_3))) FP.out).mono ?_
  unfold BunPost
  rw [HPA.out]
  simp only
  rintro e w4 ⟨v4, rfl, hv4, hrf, hb4⟩
  have hB4 : Below w.heap.size w w4 := btrans0 (balloc0 (hB3)) hb4
  have hK2_4 : Below w2.heap.size w2 w4 := btrans0 (balloc0 (hK2_3)) hb4
  have hK3_4 : Below w3.heap.size w3 w4 := btrans0 (balloc0 (Below.refl _ _)) hb4
  have y4 := hb4.size
  (try simp at y4)
  have zb4 : w.heap.size < w4.heap.size := by omega
  have Ab : w4.heap[w.heap.size]? = some (.cells (bunC b (.slice ua b.blocks.length uc)).toArray 28 (0, 0)) := (hb4.block _ (by first | exact zb3 | (simp; done) | (simp; omega) | omega)).trans (by repeat (first | exact HAb.out | exact heap_new | exact heap_new' (by first | rfl | (simp; done)) | refine (Below.heap_alloc _ _ _ (by first | omega | (simp; done) | (simp; omega))).trans ?_))
  clear cab HAb
  have cab := fun o => cellB Ab o
  have HAb := Lib.hid Ab
  simp only [bunC] at cab
  clear Ab
  have zP4 : w2.heap.size < w4.heap.size := by omega
  have AP : w4.heap[w2.heap.size]? = some (.cells (bunC P (.slice va2 P.blocks.length vc2)).toArray 28 (0, 0)) := (hb4.block _ (by first | exact zP3 | (simp; done) | (simp; omega) | omega)).trans (by repeat (first | exact HAP.out | exact heap_new | exact heap_new' (by first | rfl | (simp; done)) | refine (Below.heap_alloc _ _ _ (by first | omega | (simp; done) | (simp; omega))).trans ?_))
  clear caP HAP
  have caP := fun o => cellB AP o
  have HAP := Lib.hid AP
  simp only [bunC] at caP
  clear AP
  have zQ4 : w3.heap.size < w4.heap.size := by omega
  have AQ : w4.heap[w3.heap.size]? = some (.cells (bunC Q (.slice va3 Q.blocks.length vc3)).toArray 28 (0, 0)) := (hb4.block _ (by first | exact zQ3 | (simp; done) | (simp; omega) | omega)).trans (by repeat (first | exact HAQ.out | exact heap_new | exact heap_new' (by first | rfl | (simp; done)) | refine (Below.heap_alloc _ _ _ (by first | omega | (simp; done) | (simp; omega))).trans ?_))
  have caQ := fun o => cellB AQ o
  have HAQ := Lib.hid AQ
  simp only [bunC] at caQ
  clear AQ
  obtain ⟨va4, vc4, rfl, _⟩ := id hv4
  have HV4 := Lib.hid hv4
  clear hv4 hrf
  clear hb4
  go_wp2_with fail
  refine (age_any P _ _ (HV2.out.below' (balloc0 (hK2_4))) FP.out).mono ?_
  rw [HPG.out]
  simp only
  rintro e w5 ⟨rfl, hb5⟩
  have hB5 : Below w.heap.size w w5 := btrans0 (balloc0 (hB4)) hb5
  have hK2_5 : Below w2.heap.size w2 w5 := btrans0 (balloc0 (hK2_4)) hb5
  have hK3_5 : Below w3.heap.size w3 w5 := btrans0 (balloc0 (hK3_4)) hb5
  have hK4_5 : Below w4.heap.size w4 w5 := btrans0 (balloc0 (Below.refl _ _)) hb5
  have y5 := hb5.size
  (try simp at y5)
  have zb5 : w.heap.size < w5.heap.size := by omega
  have Ab : w5.heap[w.heap.size]? = some (.cells (bunC b (.slice ua b.blocks.length uc)).toArray 28 (0, 0)) := (hb5.block _ (by first | exact zb4 | (simp; done) | (simp; omega) | omega)).trans (by repeat (first | exact HAb.out | exact heap_new | exact heap_new' (by first | rfl | (simp; done)) | refine (Below.heap_alloc _ _ _ (by first | omega | (simp; done) | (simp; omega))).trans ?_))
  clear cab HAb
  have cab := fun o => cellB Ab o
  have HAb := Lib.hid Ab
  simp only [bunC] at cab
  clear Ab
  have zP5 : w2.heap.size < w5.heap.size := by omega
  have AP : w5.heap[w2.heap.size]? = some (.cells (bunC P (.slice va2 P.blocks.length vc2)).toArray 28 (0, 0)) := (hb5.block _ (by first | exact zP4 | (simp; done) | (simp; omega) | omega)).trans (by repeat (first | exact HAP.out | exact heap_new | exact heap_new' (by first | rfl | (simp; done)) | refine (Below.heap_alloc _ _ _ (by first | omega | (simp; done) | (simp; omega))).trans ?_))
  clear caP HAP
  have caP := fun o => cellB AP o
  have HAP := Lib.hid AP
  simp only [bunC] at caP
  clear AP
  have zQ5 : w3.heap.size < w5.heap.size := by omega
  have AQ : w5.heap[w3.heap.size]? = some (.cells (bunC Q (.slice va3 Q.blocks.length vc3)).toArray 28 (0, 0)) := (hb5.block _ (by first | exact zQ4 | (simp; done) | (simp; omega) | omega)).trans (by repeat (first | exact HAQ.out | exact heap_new | exact heap_new' (by first | rfl | (simp; done)) | refine (Below.heap_alloc _ _ _ (by first | omega | (simp; done) | (simp; omega))).trans ?_))
  clear caQ HAQ
  have caQ := fun o => cellB AQ o
  have HAQ := Lib.hid AQ
  simp only [bunC] at caQ
  clear AQ
  have zag5 : w4.heap.size < w5.heap.size := by omega
  have Aag : w5.heap[w4.heap.size]? = some (.cells (bunC P (.slice va4 P.blocks.length vc4)).toArray 28 (0, 0)) := (hb5.block _ (by first | exact zag4 | (simp; done) | (simp; omega) | omega)).trans (by repeat (first | exact HAag.out | exact heap_new | exact heap_new' (by first | rfl | (simp; done)) | refine (Below.heap_alloc _ _ _ (by first | omega | (simp; done) | (simp; omega))).trans ?_))
  have caag := fun o => cellB Aag o
  have HAag := Lib.hid Aag
  simp only [bunC] at caag
  clear Aag
  clear hb5
  go_wp2_with fail
  refine (lsame_any P _ _ _ (HV4.out.below' (hK4_5)) (HV2.out.below' (hK2_5))).mono ?_
  rintro e w6 ⟨rfl, hb6⟩
  have hB6 : Below w.heap.size w w6 := btrans0 (hB5) hb6
  have hK2_6 : Below w2.heap.size w2 w6 := btrans0 (hK2_5) hb6
  have hK3_6 : Below w3.heap.size w3 w6 := btrans0 (hK3_5) hb6
  have hK4_6 : Below w4.heap.size w4 w6 := btrans0 (hK4_5) hb6
  have y6 := hb6.size
  (try simp at y6)
  have zb6 : w.heap.size < w6.heap.size := by omega
  have Ab : w6.heap[w.heap.size]? = some (.cells (bunC b (.slice ua b.blocks.length uc)).toArray 28 (0, 0)) := (hb6.block _ (by first | exact zb5 | (simp; done) | (simp; omega) | omega)).trans (by repeat (first | exact HAb.out | exact heap_new | exact heap_new' (by first | rfl | (simp; done)) | refine (Below.heap_alloc _ _ _ (by first | omega | (simp; done) | (simp; omega))).trans ?_))
  clear cab HAb
  have cab := fun o => cellB Ab o
  have HAb := Lib.hid Ab
  simp only [bunC] at cab
  clear Ab
  have zP6 : w2.heap.size < w6.heap.size := by omega
  have AP : w6.heap[w2.heap.size]? = some (.cells (bunC P (.slice va2 P.blocks.length vc2)).toArray 28 (0, 0)) := (hb6.block _ (by first | exact zP5 | (simp; done) | (simp; omega) | omega)).trans (by repeat (first | exact HAP.out | exact heap_new | exact heap_new' (by first | rfl | (simp; done)) | refine (Below.heap_alloc _ _ _ (by first | omega | (simp; done) | (simp; omega))).trans ?_))
  clear caP HAP
  have caP := fun o => cellB AP o
  have HAP := Lib.hid AP
  simp only [bunC] at caP
  clear AP
  have zQ6 : w3.heap.size < w6.heap.size := by omega
  have AQ : w6.heap[w3.heap.size]? = some (.cells (bunC Q (.slice va3 Q.blocks.length vc3)).toArray 28 (0, 0)) := (hb6.block _ (by first | exact zQ5 | (simp; done) | (simp; omega) | omega)).trans (by repeat (first | exact HAQ.out | exact heap_new | exact heap_new' (by first | rfl | (simp; done)) | refine (Below.heap_alloc _ _ _ (by first | omega | (simp; done) | (simp; omega))).trans ?_))
  clear caQ HAQ
  have caQ := fun o => cellB AQ o
  have HAQ := Lib.hid AQ
  simp only [bunC] at caQ
  clear AQ
  have zag6 : w4.heap.size < w6.heap.size := by omega
  have Aag : w6.heap[w4.heap.size]? = some (.cells (bunC P (.slice va4 P.blocks.length vc4)).toArray 28 (0, 0)) := (hb6.block _ (by first | exact zag5 | (simp; done) | (simp; omega) | omega)).trans (by repeat (first | exact HAag.out | exact heap_new | exact heap_new' (by first | rfl | (simp; done)) | refine (Below.heap_alloc _ _ _ (by first | omega | (simp; done) | (simp; omega))).trans ?_))
  clear caag HAag
  have caag := fun o => cellB Aag o
  have HAag := Lib.hid Aag
  simp only [bunC] at caag
  clear Aag
  clear hb6
  go_wp2_with fail
  refine (setHops_any Q _ l c _ (HV3.out.below' (hK3_6)) FQ.out).mono ?_
  unfold BunPost
  rw [HQA.out]
  simp only
  rintro e w7 ⟨v7, rfl, hv7, hrf, hb7⟩
  have hB7 : Below w.heap.size w w7 := btrans0 (hB6) hb7
  have hK2_7 : Below w2.heap.size w2 w7 := btrans0 (hK2_6) hb7
  have hK3_7 : Below w3.heap.size w3 w7 := btrans0 (hK3_6) hb7
  have hK4_7 : Below w4.heap.size w4 w7 := btrans0 (hK4_6) hb7
  have y7 := hb7.size
  (try simp at y7)
  have zb7 : w.heap.size < w7.heap.size := by omega
  have Ab : w7.heap[w.heap.size]? = some (.cells (bunC b (.slice ua b.blocks.length uc)).toArray 28 (0, 0)) := (hb7.block _ (by first | exact zb6 | (simp; done) | (simp; omega) | omega)).trans (by repeat (first | exact HAb.out | exact heap_new | exact heap_new' (by first | rfl | (simp; done)) | refine (Below.heap_alloc _ _ _ (by first | omega | (simp; done) | (simp; omega))).trans ?_))
  clear cab HAb
  have cab := fun o => cellB Ab o
  have HAb := Lib.hid Ab
  simp only [bunC] at cab
  clear Ab
  have zP7 : w2.heap.size < w7.heap.size := by omega
  have AP : w7.heap[w2.heap.size]? = some (.cells (bunC P (.slice va2 P.blocks.length vc2)).toArray 28 (0, 0)) := (hb7.block _ (by first | exact zP6 | (simp; done) | (simp; omega) | omega)).trans (by repeat (first | exact HAP.out | exact heap_new | exact heap_new' (by first | rfl | (simp; done)) | refine (Below.heap_alloc _ _ _ (by first | omega | (simp; done) | (simp; omega))).trans ?_))
  clear caP HAP
  have caP := fun o => cellB AP o
  have HAP := Lib.hid AP
  simp only [bunC] at caP
  clear AP
  have zQ7 : w3.heap.size < w7.heap.size := by omega
  have AQ : w7.heap[w3.heap.size]? = some (.cells (bunC Q (.slice va3 Q.blocks.length vc3)).toArray 28 (0, 0)) := (hb7.block _ (by first | exact zQ6 | (simp; done) | (simp; omega) | omega)).trans (by repeat (first | exact HAQ.out | exact heap_new | exact heap_new' (by first | rfl | (simp; done)) | refine (Below.heap_alloc _ _ _ (by first | omega | (simp; done) | (simp; omega))).trans ?_))
  clear caQ HAQ
  have caQ := fun o => cellB AQ o
  have HAQ := Lib.hid AQ
  simp only [bunC] at caQ
  clear AQ
  have zag7 : w4.heap.size < w7.heap.size := by omega
  have Aag : w7.heap[w4.heap.size]? = some (.cells (bunC P (.slice va4 P.blocks.length vc4)).toArray 28 (0, 0)) := (hb7.block _ (by first | exact zag6 | (simp; done) | (simp; omega) | omega)).trans (by repeat (first | exact HAag.out | exact heap_new | exact heap_new' (by first | rfl | (simp; done)) | refine (Below.heap_alloc _ _ _ (by first | omega | (simp; done) | (simp; omega))).trans ?_))
  clear caag HAag
  have caag := fun o => cellB Aag o
  have HAag := Lib.hid Aag
  simp only [bunC] at caag
  clear Aag
  obtain ⟨va7, vc7, rfl, _⟩ := id hv7
  have HV7 := Lib.hid hv7
  clear hv7 hrf
  clear hb7
  go_wp2_with fail
  refine (hops_any Q _ _ (HV3.out.below' (balloc0 (hK3_7))) FQ.out).mono ?_
  rw [HQG.out]
  simp only
  rintro e w8 ⟨rfl, hb8⟩
  have hB8 : Below w.heap.size w w8 := btrans0 (balloc0 (hB7)) hb8
  have hK2_8 : Below w2.heap.size w2 w8 := btrans0 (balloc0 (hK2_7)) hb8
  have hK3_8 : Below w3.heap.size w3 w8 := btrans0 (balloc0 (hK3_7)) hb8
  have hK4_8 : Below w4.heap.size w4 w8 := btrans0 (balloc0 (hK4_7)) hb8
  have hK7_8 : Below w7.heap.size w7 w8 := btrans0 (balloc0 (Below.refl _ _)) hb8
  have y8 := hb8.size
  (try simp at y8)
  have zb8 : w.heap.size < w8.heap.size := by omega
  have Ab : w8.heap[w.heap.size]? = some (.cells (bunC b (.slice ua b.blocks.length uc)).toArray 28 (0, 0)) := (hb8.block _ (by first | exact zb7 | (simp; done) | (simp; omega) | omega)).trans (by repeat (first | exact HAb.out | exact heap_new | exact heap_new' (by first | rfl | (simp; done)) | refine (Below.heap_alloc _ _ _ (by first | omega | (simp; done) | (simp; omega))).trans ?_))
  clear cab HAb
  have cab := fun o => cellB Ab o
  have HAb := Lib.hid Ab
  simp only [bunC] at cab
  clear Ab
  have zP8 : w2.heap.size < w8.heap.size := by omega
  have AP : w8.heap[w2.heap.size]? = some (.cells (bunC P (.slice va2 P.blocks.length vc2)).toArray 28 (0, 0)) := (hb8.block _ (by first | exact zP7 | (simp; done) | (simp; omega) | omega)).trans (by repeat (first | exact HAP.out | exact heap_new | exact heap_new' (by first | rfl | (simp; done)) | refine (Below.heap_alloc _ _ _ (by first | omega | (simp; done) | (simp; omega))).trans ?_))
  clear caP HAP
  have caP := fun o => cellB AP o
  have HAP := Lib.hid AP
  simp only [bunC] at caP
  clear AP
  have zQ8 : w3.heap.size < w8.heap.size := by omega
  have AQ : w8.heap[w3.heap.size]? = some (.cells (bunC Q (.slice va3 Q.blocks.length vc3)).toArray 28 (0, 0)) := (hb8.block _ (by first | exact zQ7 | (simp; done) | (simp; omega) | omega)).trans (by repeat (first | exact HAQ.out | exact heap_new | exact heap_new' (by first | rfl | (simp; done)) | refine (Below.heap_alloc _ _ _ (by first | omega | (simp; done) | (simp; omega))).trans ?_))
  clear caQ HAQ
  have caQ := fun o => cellB AQ o
  have HAQ := Lib.hid AQ
  simp only [bunC] at caQ
  clear AQ
  have zag8 : w4.heap.size < w8.heap.size := by omega
  have Aag : w8.heap[w4.heap.size]? = some (.cells (bunC P (.slice va4 P.blocks.length vc4)).toArray 28 (0, 0)) := (hb8.block _ (by first | exact zag7 | (simp; done) | (simp; omega) | omega)).trans (by repeat (first | exact HAag.out | exact heap_new | exact heap_new' (by first | rfl | (simp; done)) | refine (Below.heap_alloc _ _ _ (by first | omega | (simp; done) | (simp; omega))).trans ?_))
  clear caag HAag
  have caag := fun o => cellB Aag o
  have HAag := Lib.hid Aag
  simp only [bunC] at caag
  clear Aag
  have zah8 : w7.heap.size < w8.heap.size := by omega
  have Aah : w8.heap[w7.heap.size]? = some (.cells (bunC Q (.slice va7 Q.blocks.length vc7)).toArray 28 (0, 0)) := (hb8.block _ (by first | exact zah7 | (simp; done) | (simp; omega) | omega)).trans (by repeat (first | exact HAah.out | exact heap_new | exact heap_new' (by first | rfl | (simp; done)) | refine (Below.heap_alloc _ _ _ (by first | omega | (simp; done) | (simp; omega))).trans ?_))
  have caah := fun o => cellB Aah o
  have HAah := Lib.hid Aah
  simp only [bunC] at caah
  clear Aah
  clear hb8
  go_wp2_with fail
  refine (lsame_any Q _ _ _ (HV7.out.below' (hK7_8)) (HV3.out.below' (hK3_8))).mono ?_
  rintro e w9 ⟨rfl, hb9⟩
  have hB9 : Below w.heap.size w w9 := btrans0 (hB8) hb9
  have hK2_9 : Below w2.heap.size w2 w9 := btrans0 (hK2_8) hb9
  have hK3_9 : Below w3.heap.size w3 w9 := btrans0 (hK3_8) hb9
  have hK4_9 : Below w4.heap.size w4 w9 := btrans0 (hK4_8) hb9
  have hK7_9 : Below w7.heap.size w7 w9 := btrans0 (hK7_8) hb9
  have y9 := hb9.size
  (try simp at y9)
  have zb9 : w.heap.size < w9.heap.size := by omega
  have Ab : w9.heap[w.heap.size]? = some (.cells (bunC b (.slice ua b.blocks.length uc)).toArray 28 (0, 0)) := (hb9.block _ (by first | exact zb8 | (simp; done) | (simp; omega) | omega)).trans (by repeat (first | exact HAb.out | exact heap_new | exact heap_new' (by first | rfl | (simp; done)) | refine (Below.heap_alloc _ _ _ (by first | omega | (simp; done) | (simp; omega))).trans ?_))
  clear cab HAb
  have cab := fun o => cellB Ab o
  have HAb := Lib.hid Ab
  simp only [bunC] at cab
  clear Ab
  have zP9 : w2.heap.size < w9.heap.size := by omega
  have AP : w9.heap[w2.heap.size]? = some (.cells (bunC P (.slice va2 P.blocks.length vc2)).toArray 28 (0, 0)) := (hb9.block _ (by first | exact zP8 | (simp; done) | (simp; omega) | omega)).trans (by repeat (first | exact HAP.out | exact heap_new | exact heap_new' (by first | rfl | (simp; done)) | refine (Below.heap_alloc _ _ _ (by first | omega | (simp; done) | (simp; omega))).trans ?_))
  clear caP HAP
  have caP := fun o => cellB AP o
  have HAP := Lib.hid AP
  simp only [bunC] at caP
  clear AP
  have zQ9 : w3.heap.size < w9.heap.size := by omega
  have AQ : w9.heap[w3.heap.size]? = some (.cells (bunC Q (.slice va3 Q.blocks.length vc3)).toArray 28 (0, 0)) := (hb9.block _ (by first | exact zQ8 | (simp; done) | (simp; omega) | omega)).trans (by repeat (first | exact HAQ.out | exact heap_new | exact heap_new' (by first | rfl | (simp; done)) | refine (Below.heap_alloc _ _ _ (by first | omega | (simp; done) | (simp; omega))).trans ?_))
  clear caQ HAQ
  have caQ := fun o => cellB AQ o
  have HAQ := Lib.hid AQ
  simp only [bunC] at caQ
  clear AQ
  have zag9 : w4.heap.size < w9.heap.size := by omega
  have Aag : w9.heap[w4.heap.size]? = some (.cells (bunC P (.slice va4 P.blocks.length vc4)).toArray 28 (0, 0)) := (hb9.block _ (by first | exact zag8 | (simp; done) | (simp; omega) | omega)).trans (by repeat (first | exact HAag.out | exact heap_new | exact heap_new' (by first | rfl | (simp; done)) | refine (Below.heap_alloc _ _ _ (by first | omega | (simp; done) | (simp; omega))).trans ?_))
  clear caag HAag
  have caag := fun o => cellB Aag o
  have HAag := Lib.hid Aag
  simp only [bunC] at caag
  clear Aag
  have zah9 : w7.heap.size < w9.heap.size := by omega
  have Aah : w9.heap[w7.heap.size]? = some (.cells (bunC Q (.slice va7 Q.blocks.length vc7)).toArray 28 (0, 0)) := (hb9.block _ (by first | exact zah8 | (simp; done) | (simp; omega) | omega)).trans (by repeat (first | exact HAah.out | exact heap_new | exact heap_new' (by first | rfl | (simp; done)) | refine (Below.heap_alloc _ _ _ (by first | omega | (simp; done) | (simp; omega))).trans ?_))
  clear caah HAah
  have caah := fun o => cellB Aah o
  have HAah := Lib.hid Aah
  simp only [bunC] at caah
  clear Aah
  clear hb9
  go_wp2_with fail
  refine (setHops_any P _ l c _ (HV2.out.below' (hK2_9)) FP.out).mono ?_
  unfold BunPost
  rw [HR1.out]
  simp only
  rintro e w10 ⟨v10, rfl, hv10, hrf, hb10⟩
  have hB10 : Below w.heap.size w w10 := btrans0 (hB9) hb10
  have hK2_10 : Below w2.heap.size w2 w10 := btrans0 (hK2_9) hb10
  have hK3_10 : Below w3.heap.size w3 w10 := btrans0 (hK3_9) hb10
  have hK4_10 : Below w4.heap.size w4 w10 := btrans0 (hK4_9) hb10
  have hK7_10 : Below w7.heap.size w7 w10 := btrans0 (hK7_9) hb10
  have y10 := hb10.size
  (try simp at y10)
  have zb10 : w.heap.size < w10.heap.size := by omega
  have Ab : w10.heap[w.heap.size]? = some (.cells (bunC b (.slice ua b.blocks.length uc)).toArray 28 (0, 0)) := (hb10.block _ (by first | exact zb9 | (simp; done) | (simp; omega) | omega)).trans (by repeat (first | exact HAb.out | exact heap_new | exact heap_new' (by first | rfl | (simp; done)) | refine (Below.heap_alloc _ _ _ (by first | omega | (simp; done) | (simp; omega))).trans ?_))
  clear cab HAb
  have cab := fun o => cellB Ab o
  have HAb := Lib.hid Ab
  simp only [bunC] at cab
  clear Ab
  have zP10 : w2.heap.size < w10.heap.size := by omega
  have AP : w10.heap[w2.heap.size]? = some (.cells (bunC P (.slice va2 P.blocks.length vc2)).toArray 28 (0, 0)) := (hb10.block _ (by first | exact zP9 | (simp; done) | (simp; omega) | omega)).trans (by repeat (first | exact HAP.out | exact heap_new | exact heap_new' (by first | rfl | (simp; done)) | refine (Below.heap_alloc _ _ _ (by first | omega | (simp; done) | (simp; omega))).trans ?_))
  clear caP HAP
  have caP := fun o => cellB AP o
  have HAP := Lib.hid AP
  simp only [bunC] at caP
  clear AP
  have zQ10 : w3.heap.size < w10.heap.size := by omega
  have AQ : w10.heap[w3.heap.size]? = some (.cells (bunC Q (.slice va3 Q.blocks.length vc3)).toArray 28 (0, 0)) := (hb10.block _ (by first | exact zQ9 | (simp; done) | (simp; omega) | omega)).trans (by repeat (first | exact HAQ.out | exact heap_new | exact heap_new' (by first | rfl | (simp; done)) | refine (Below.heap_alloc _ _ _ (by first | omega | (simp; done) | (simp; omega))).trans ?_))
  clear caQ HAQ
  have caQ := fun o => cellB AQ o
  have HAQ := Lib.hid AQ
  simp only [bunC] at caQ
  clear AQ
  have zag10 : w4.heap.size < w10.heap.size := by omega
  have Aag : w10.heap[w4.heap.size]? = some (.cells (bunC P (.slice va4 P.blocks.length vc4)).toArray 28 (0, 0)) := (hb10.block _ (by first | exact zag9 | (simp; done) | (simp; omega) | omega)).trans (by repeat (first | exact HAag.out | exact heap_new | exact heap_new' (by first | rfl | (simp; done)) | refine (Below.heap_alloc _ _ _ (by first | omega | (simp; done) | (simp; omega))).trans ?_))
  clear caag HAag
  have caag := fun o => cellB Aag o
  have HAag := Lib.hid Aag
  simp only [bunC] at caag
  clear Aag
  have zah10 : w7.heap.size < w10.heap.size := by omega
  have Aah : w10.heap[w7.heap.size]? = some (.cells (bunC Q (.slice va7 Q.blocks.length vc7)).toArray 28 (0, 0)) := (hb10.block _ (by first | exact zah9 | (simp; done) | (simp; omega) | omega)).trans (by repeat (first | exact HAah.out | exact heap_new | exact heap_new' (by first | rfl | (simp; done)) | refine (Below.heap_alloc _ _ _ (by first | omega | (simp; done) | (simp; omega))).trans ?_))
  clear caah HAah
  have caah := fun o => cellB Aah o
  have HAah := Lib.hid Aah
  simp only [bunC] at caah
  clear Aah
  obtain ⟨va10, vc10, rfl, _⟩ := id hv10
  have HV10 := Lib.hid hv10
  clear hv10 hrf
  clear hb10
  go_wp2_with fail
  refine (setAge_any Q _ x _ (HV3.out.below' (balloc0 (hK3_10))) FQ.out).mono ?_
  unfold BunPost
  rw [HR2.out]
  simp only
  rintro e w11 ⟨v11, rfl, hv11, hrf, hb11⟩
  have hB11 : Below w.heap.size w w11 := btrans0 (balloc0 (hB10)) hb11
  have hK2_11 : Below w2.heap.size w2 w11 := btrans0 (balloc0 (hK2_10)) hb11
  have hK3_11 : Below w3.heap.size w3 w11 := btrans0 (balloc0 (hK3_10)) hb11
  have hK4_11 : Below w4.heap.size w4 w11 := btrans0 (balloc0 (hK4_10)) hb11
  have hK7_11 : Below w7.heap.size w7 w11 := btrans0 (balloc0 (hK7_10)) hb11
  have hK10_11 : Below w10.heap.size w10 w11 := btrans0 (balloc0 (Below.refl _ _)) hb11
  have y11 := hb11.size
  (try simp at y11)
  have zb11 : w.heap.size < w11.heap.size := by omega
  have Ab : w11.heap[w.heap.size]? = some (.cells (bunC b (.slice ua b.blocks.length uc)).toArray 28 (0, 0)) := (hb11.block _ (by first | exact zb10 | (simp; done) | (simp; omega) | omega)).trans (by repeat (first | exact HAb.out | exact heap_new | exact heap_new' (by first | rfl | (simp; done)) | refine (Below.heap_alloc _ _ _ (by first | omega | (simp; done) | (simp; omega))).trans ?_))
  clear cab HAb
  have cab := fun o => cellB Ab o
  have HAb := Lib.hid Ab
  simp only [bunC] at cab
  clear Ab
  have zP11 : w2.heap.size < w11.heap.size := by omega
  have AP : w11.heap[w2.heap.size]? = some (.cells (bunC P (.slice va2 P.blocks.length vc2)).toArray 28 (0, 0)) := (hb11.block _ (by first | exact zP10 | (simp; done) | (simp; omega) | omega)).trans (by repeat (first | exact HAP.out | exact heap_new | exact heap_new' (by first | rfl | (simp; done)) | refine (Below.heap_alloc _ _ _ (by first | omega | (simp; done) | (simp; omega))).trans ?_))
  clear caP HAP
  have caP := fun o => cellB AP o
  have HAP := Lib.hid AP
  simp only [bunC] at caP
  clear AP
  have zQ11 : w3.heap.size < w11.heap.size := by omega
  have AQ : w11.heap[w3.heap.size]? = some (.cells (bunC Q (.slice va3 Q.blocks.length vc3)).toArray 28 (0, 0)) := (hb11.block _ (by first | exact zQ10 | (simp; done) | (simp; omega) | omega)).trans (by repeat (first | exact HAQ.out | exact heap_new | exact heap_new' (by first | rfl | (simp; done)) | refine (Below.heap_alloc _ _ _ (by first | omega | (simp; done) | (simp; omega))).trans ?_))
  clear caQ HAQ
  have caQ := fun o => cellB AQ o
  have HAQ := Lib.hid AQ
  simp only [bunC] at caQ
  clear AQ
  have zag11 : w4.heap.size < w11.heap.size := by omega
  have Aag : w11.heap[w4.heap.size]? = some (.cells (bunC P (.slice va4 P.blocks.length vc4)).toArray 28 (0, 0)) := (hb11.block _ (by first | exact zag10 | (simp; done) | (simp; omega) | omega)).trans (by repeat (first | exact HAag.out | exact heap_new | exact heap_new' (by first | rfl | (simp; done)) | refine (Below.heap_alloc _ _ _ (by first | omega | (simp; done) | (simp; omega))).trans ?_))
  clear caag HAag
  have caag := fun o => cellB Aag o
  have HAag := Lib.hid Aag
  simp only [bunC] at caag
  clear Aag
  have zah11 : w7.heap.size < w11.heap.size := by omega
  have Aah : w11.heap[w7.heap.size]? = some (.cells (bunC Q (.slice va7 Q.blocks.length vc7)).toArray 28 (0, 0)) := (hb11.block _ (by first | exact zah10 | (simp; done) | (simp; omega) | omega)).trans (by repeat (first | exact HAah.out | exact heap_new | exact heap_new' (by first | rfl | (simp; done)) | refine (Below.heap_alloc _ _ _ (by first | omega | (simp; done) | (simp; omega))).trans ?_))
  clear caah HAah
  have caah := fun o => cellB Aah o
  have HAah := Lib.hid Aah
  simp only [bunC] at caah
  clear Aah
  have zr111 : w10.heap.size < w11.heap.size := by omega
  have Ar1 : w11.heap[w10.heap.size]? = some (.cells (bunC R (.slice va10 R.blocks.length vc10)).toArray 28 (0, 0)) := (hb11.block _ (by first | exact zr110 | (simp; done) | (simp; omega) | omega)).trans (by repeat (first | exact HAr1.out | exact heap_new | exact heap_new' (by first | rfl | (simp; done)) | refine (Below.heap_alloc _ _ _ (by first | omega | (simp; done) | (simp; omega))).trans ?_))
  have car1 := fun o => cellB Ar1 o
  have HAr1 := Lib.hid Ar1
  simp only [bunC] at car1
  clear Ar1
  obtain ⟨va11, vc11, rfl, _⟩ := id hv11
  have HV11 := Lib.hid hv11
  clear hv11 hrf
  clear hb11
  go_wp2_with fail
  refine (lsame_any R _ _ _ (HV10.out.below' (balloc0 (hK10_11))) (HV11.out.below' (balloc0 (Below.refl _ _)))).mono ?_
  rintro e w12 ⟨rfl, hb12⟩
  have hB12 : Below w.heap.size w w12 := btrans0 (balloc0 (hB11)) hb12
  have hK2_12 : Below w2.heap.size w2 w12 := btrans0 (balloc0 (hK2_11)) hb12
  have hK3_12 : Below w3.heap.size w3 w12 := btrans0 (balloc0 (hK3_11)) hb12
  have hK4_12 : Below w4.heap.size w4 w12 := btrans0 (balloc0 (hK4_11)) hb12
  have hK7_12 : Below w7.heap.size w7 w12 := btrans0 (balloc0 (hK7_11)) hb12
  have hK10_12 : Below w10.heap.size w10 w12 := btrans0 (balloc0 (hK10_11)) hb12
  have hK11_12 : Below w11.heap.size w11 w12 := btrans0 (balloc0 (Below.refl _ _)) hb12
  have y12 := hb12.size
  (try simp at y12)
  have zb12 : w.heap.size < w12.heap.size := by omega
  have Ab : w12.heap[w.heap.size]? = some (.cells (bunC b (.slice ua b.blocks.length uc)).toArray 28 (0, 0)) := (hb12.block _ (by first | exact zb11 | (simp; done) | (simp; omega) | omega)).trans (by repeat (first | exact HAb.out | exact heap_new | exact heap_new' (by first | rfl | (simp; done)) | refine (Below.heap_alloc _ _ _ (by first | omega | (simp; done) | (simp; omega))).trans ?_))
  clear cab HAb
  have cab := fun o => cellB Ab o
  have HAb := Lib.hid Ab
  simp only [bunC] at cab
  clear Ab
  have zP12 : w2.heap.size < w12.heap.size := by omega
  have AP : w12.heap[w2.heap.size]? = some (.cells (bunC P (.slice va2 P.blocks.length vc2)).toArray 28 (0, 0)) := (hb12.block _ (by first | exact zP11 | (simp; done) | (simp; omega) | omega)).trans (by repeat (first | exact HAP.out | exact heap_new | exact heap_new' (by first | rfl | (simp; done)) | refine (Below.heap_alloc _ _ _ (by first | omega | (simp; done) | (simp; omega))).trans ?_))
  clear caP HAP
  have caP := fun o => cellB AP o
  have HAP := Lib.hid AP
  simp only [bunC] at caP
  clear AP
  have zQ12 : w3.heap.size < w12.heap.size := by omega
  have AQ : w12.heap[w3.heap.size]? = some (.cells (bunC Q (.slice va3 Q.blocks.length vc3)).toArray 28 (0, 0)) := (hb12.block _ (by first | exact zQ11 | (simp; done) | (simp; omega) | omega)).trans (by repeat (first | exact HAQ.out | exact heap_new | exact heap_new' (by first | rfl | (simp; done)) | refine (Below.heap_alloc _ _ _ (by first | omega | (simp; done) | (simp; omega))).trans ?_))
  clear caQ HAQ
  have caQ := fun o => cellB AQ o
  have HAQ := Lib.hid AQ
  simp only [bunC] at caQ
  clear AQ
  have zag12 : w4.heap.size < w12.heap.size := by omega
  have Aag : w12.heap[w4.heap.size]? = some (.cells (bunC P (.slice va4 P.blocks.length vc4)).toArray 28 (0, 0)) := (hb12.block _ (by first | exact zag11 | (simp; done) | (simp; omega) | omega)).trans (by repeat (first | exact HAag.out | exact heap_new | exact heap_new' (by first | rfl | (simp; done)) | refine (Below.heap_alloc _ _ _ (by first | omega | (simp; done) | (simp; omega))).trans ?_))
  clear caag HAag
  have caag := fun o => cellB Aag o
  have HAag := Lib.hid Aag
  simp only [bunC] at caag
  clear Aag
  have zah12 : w7.heap.size < w12.heap.size := by omega
  have Aah : w12.heap[w7.heap.size]? = some (.cells (bunC Q (.slice va7 Q.blocks.length vc7)).toArray 28 (0, 0)) := (hb12.block _ (by first | exact zah11 | (simp; done) | (simp; omega) | omega)).trans (by repeat (first | exact HAah.out | exact heap_new | exact heap_new' (by first | rfl | (simp; done)) | refine (Below.heap_alloc _ _ _ (by first | omega | (simp; done) | (simp; omega))).trans ?_))
  clear caah HAah
  have caah := fun o => cellB Aah o
  have HAah := Lib.hid Aah
  simp only [bunC] at caah
  clear Aah
  have zr112 : w10.heap.size < w12.heap.size := by omega
  have Ar1 : w12.heap[w10.heap.size]? = some (.cells (bunC R (.slice va10 R.blocks.length vc10)).toArray 28 (0, 0)) := (hb12.block _ (by first | exact zr111 | (simp; done) | (simp; omega) | omega)).trans (by repeat (first | exact HAr1.out | exact heap_new | exact heap_new' (by first | rfl | (simp; done)) | refine (Below.heap_alloc _ _ _ (by first | omega | (simp; done) | (simp; omega))).trans ?_))
  clear car1 HAr1
  have car1 := fun o => cellB Ar1 o
  have HAr1 := Lib.hid Ar1
  simp only [bunC] at car1
  clear Ar1
  have zr212 : w11.heap.size < w12.heap.size := by omega
  have Ar2 : w12.heap[w11.heap.size]? = some (.cells (bunC R (.slice va11 R.blocks.length vc11)).toArray 28 (0, 0)) := (hb12.block _ (by first | exact zr211 | (simp; done) | (simp; omega) | omega)).trans (by repeat (first | exact HAr2.out | exact heap_new | exact heap_new' (by first | rfl | (simp; done)) | refine (Below.heap_alloc _ _ _ (by first | omega | (simp; done) | (simp; omega))).trans ?_))
  have car2 := fun o => cellB Ar2 o
  have HAr2 := Lib.hid Ar2
  simp only [bunC] at car2
  clear Ar2
  clear hb12
  go_wp2_with fail
  refine (awake_any _).mono ?_
  rintro e w99 ⟨rfl, hb99⟩
  go_wp2
  go_ret
  exact ⟨rfl, (by repeat' (first | with_reducible (first | refine bset ?_ ?_ | exact Below.refl _ _ | assumption | refine bdrewN ?_ _ | refine bdrew ?_ | refine balloc0 ?_ | refine balloc ?_ ?_ | (apply btrans0; rotate_left; assumption) | (apply btrans; rotate_left; assumption)) | exact Below.refl _ _ | assumption | (apply btrans0; rotate_left; assumption) | (apply btrans; rotate_left; assumption) | (simp; done) | omega | (simp; omega)))⟩
set_option maxRecDepth 100000 in
set_option maxHeartbeats 16000000 in
theorem walk10 (b : Bun) (u : Value) (x l c : Int) (w : World) (hr : RBlks w w.heap.size u b.blocks) (hf : Fits b) (P : Bun) (hP : setAgeS b x = (P, 0)) (Q : Bun) (QE : Int) (hQ : setHopS b l c = (Q, QE)) (hQE : QE ≠ 0) :
    Calls Try.prog 5 #[.agg (bunC b u).toArray, .int .i64 x, .int .i64 l, .int .i64 c] w (Says w) := by
  have HP := Lib.hid hP
  have HQ := Lib.hid hQ
  obtain ⟨_, pa, pg⟩ := age_set hP
  have fp := fits_age (x := x) hf
  rw [hP] at fp
  have HPA := Lib.hid pa
  have HPG := Lib.hid pg
  have FP := Lib.hid fp
  have j1 : (QE == 0) = false := beq_eq_false_iff_ne.2 hQE
  have j2 : (QE != 0) = true := by rw [bne_iff_ne]; exact hQE
  clear hP hQ pa pg fp hQE
  obtain ⟨ua, uc, rfl, _⟩ := id hr
  have HR := Lib.hid hr
  have HF := Lib.hid hf
  clear hr hf
  go_enter Try.func5, Try.ntmps5
  simp only [bunC]
  go_wp2_with fail
  refine (bgreat_any b _ _ (HR.out.below' (balloc0 (Below.refl _ _))) HF.out).mono ?_
  rintro e w1 ⟨g, rfl, hb1⟩
  have hB1 : Below w.heap.size w w1 := btrans0 (balloc0 (Below.refl _ _)) hb1
  have y1 := hb1.size
  (try simp at y1)
  have zb1 : w.heap.size < w1.heap.size := by omega
  have Ab : w1.heap[w.heap.size]? = some (.cells (bunC b (.slice ua b.blocks.length uc)).toArray 28 (0, 0)) := (hb1.block _ (by first | exact zb0 | (simp; done) | (simp; omega) | omega)).trans (by repeat (first | exact HAb.out | exact heap_new | exact heap_new' (by first | rfl | (simp; done)) | refine (Below.heap_alloc _ _ _ (by first | omega | (simp; done) | (simp; omega))).trans ?_))
  have cab := fun o => cellB Ab o
  have HAb := Lib.hid Ab
  simp only [bunC] at cab
  clear Ab
  clear hb1
  cases g
  case true =>
    go_wp2_with fail
    refine (awake_any _).mono ?_
    rintro e w99 ⟨rfl, hb99⟩
    go_wp2
    go_ret
    exact ⟨rfl, (by repeat' (first | with_reducible (first | refine bset ?_ ?_ | exact Below.refl _ _ | assumption | refine bdrewN ?_ _ | refine bdrew ?_ | refine balloc0 ?_ | refine balloc ?_ ?_ | (apply btrans0; rotate_left; assumption) | (apply btrans; rotate_left; assumption)) | exact Below.refl _ _ | assumption | (apply btrans0; rotate_left; assumption) | (apply btrans; rotate_left; assumption) | (simp; done) | omega | (simp; omega)))⟩
  go_wp2_with fail
  refine (setAge_any b _ x _ (HR.out.below' (hB1)) HF.out).mono ?_
  unfold BunPost
  rw [HP.out]
  simp only
  rintro e w2 ⟨v2, rfl, hv2, hrf, hb2⟩
  have hB2 : Below w.heap.size w w2 := btrans0 (hB1) hb2
  have y2 := hb2.size
  (try simp at y2)
  have zb2 : w.heap.size < w2.heap.size := by omega
  have Ab : w2.heap[w.heap.size]? = some (.cells (bunC b (.slice ua b.blocks.length uc)).toArray 28 (0, 0)) := (hb2.block _ (by first | exact zb1 | (simp; done) | (simp; omega) | omega)).trans (by repeat (first | exact HAb.out | exact heap_new | exact heap_new' (by first | rfl | (simp; done)) | refine (Below.heap_alloc _ _ _ (by first | omega | (simp; done) | (simp; omega))).trans ?_))
  clear cab HAb
  have cab := fun o => cellB Ab o
  have HAb := Lib.hid Ab
  simp only [bunC] at cab
  clear Ab
  obtain ⟨va2, vc2, rfl, _⟩ := id hv2
  have HV2 := Lib.hid hv2
  clear hv2 hrf
  clear hb2
  go_wp2_with fail
  refine (setHops_any b _ l c _ (HR.out.below' (balloc0 (hB2))) HF.out).mono ?_
  unfold BunPost
  rw [HQ.out]
  simp only
  rintro e w3 ⟨v3, rfl, hv3, hrf, hb3⟩
  have hB3 : Below w.heap.size w w3 := btrans0 (balloc0 (hB2)) hb3
  have hK2_3 : Below w2.heap.size w2 w3 := btrans0 (balloc0 (Below.refl _ _)) hb3
  have y3 := hb3.size
  (try simp at y3)
  have zb3 : w.heap.size < w3.heap.size := by omega
  have Ab : w3.heap[w.heap.size]? = some (.cells (bunC b (.slice ua b.blocks.length uc)).toArray 28 (0, 0)) := (hb3.block _ (by first | exact zb2 | (simp; done) | (simp; omega) | omega)).trans (by repeat (first | exact HAb.out | exact heap_new | exact heap_new' (by first | rfl | (simp; done)) | refine (Below.heap_alloc _ _ _ (by first | omega | (simp; done) | (simp; omega))).trans ?_))
  clear cab HAb
  have cab := fun o => cellB Ab o
  have HAb := Lib.hid Ab
  simp only [bunC] at cab
  clear Ab
  have zP3 : w2.heap.size < w3.heap.size := by omega
  have AP : w3.heap[w2.heap.size]? = some (.cells (bunC P (.slice va2 P.blocks.length vc2)).toArray 28 (0, 0)) := (hb3.block _ (by first | exact zP2 | (simp; done) | (simp; omega) | omega)).trans (by repeat (first | exact HAP.out | exact heap_new | exact heap_new' (by first | rfl | (simp; done)) | refine (Below.heap_alloc _ _ _ (by first | omega | (simp; done) | (simp; omega))).trans ?_))
  have caP := fun o => cellB AP o
  have HAP := Lib.hid AP
  simp only [bunC] at caP
  clear AP
  obtain ⟨va3, vc3, rfl, _⟩ := id hv3
  have HV3 := Lib.hid hv3
  clear hv3 hrf
  clear hb3
  go_wp2_with fail
  refine (setAge_any P _ x _ (HV2.out.below' (balloc0 (hK2_3))) FP.out).mono ?_
  unfold BunPost
  rw [HPA.out]
  simp only
  rintro e w4 ⟨v4, rfl, hv4, hrf, hb4⟩
  have hB4 : Below w.heap.size w w4 := btrans0 (balloc0 (hB3)) hb4
  have hK2_4 : Below w2.heap.size w2 w4 := btrans0 (balloc0 (hK2_3)) hb4
  have hK3_4 : Below w3.heap.size w3 w4 := btrans0 (balloc0 (Below.refl _ _)) hb4
  have y4 := hb4.size
  (try simp at y4)
  have zb4 : w.heap.size < w4.heap.size := by omega
  have Ab : w4.heap[w.heap.size]? = some (.cells (bunC b (.slice ua b.blocks.length uc)).toArray 28 (0, 0)) := (hb4.block _ (by first | exact zb3 | (simp; done) | (simp; omega) | omega)).trans (by repeat (first | exact HAb.out | exact heap_new | exact heap_new' (by first | rfl | (simp; done)) | refine (Below.heap_alloc _ _ _ (by first | omega | (simp; done) | (simp; omega))).trans ?_))
  clear cab HAb
  have cab := fun o => cellB Ab o
  have HAb := Lib.hid Ab
  simp only [bunC] at cab
  clear Ab
  have zP4 : w2.heap.size < w4.heap.size := by omega
  have AP : w4.heap[w2.heap.size]? = some (.cells (bunC P (.slice va2 P.blocks.length vc2)).toArray 28 (0, 0)) := (hb4.block _ (by first | exact zP3 | (simp; done) | (simp; omega) | omega)).trans (by repeat (first | exact HAP.out | exact heap_new | exact heap_new' (by first | rfl | (simp; done)) | refine (Below.heap_alloc _ _ _ (by first | omega | (simp; done) | (simp; omega))).trans ?_))
  clear caP HAP
  have caP := fun o => cellB AP o
  have HAP := Lib.hid AP
  simp only [bunC] at caP
  clear AP
  have zQ4 : w3.heap.size < w4.heap.size := by omega
  have AQ : w4.heap[w3.heap.size]? = some (.cells (bunC Q (.slice va3 Q.blocks.length vc3)).toArray 28 (0, 0)) := (hb4.block _ (by first | exact zQ3 | (simp; done) | (simp; omega) | omega)).trans (by repeat (first | exact HAQ.out | exact heap_new | exact heap_new' (by first | rfl | (simp; done)) | refine (Below.heap_alloc _ _ _ (by first | omega | (simp; done) | (simp; omega))).trans ?_))
  have caQ := fun o => cellB AQ o
  have HAQ := Lib.hid AQ
  simp only [bunC] at caQ
  clear AQ
  obtain ⟨va4, vc4, rfl, _⟩ := id hv4
  have HV4 := Lib.hid hv4
  clear hv4 hrf
  clear hb4
  go_wp2_with fail
  refine (age_any P _ _ (HV2.out.below' (balloc0 (hK2_4))) FP.out).mono ?_
  rw [HPG.out]
  simp only
  rintro e w5 ⟨rfl, hb5⟩
  have hB5 : Below w.heap.size w w5 := btrans0 (balloc0 (hB4)) hb5
  have hK2_5 : Below w2.heap.size w2 w5 := btrans0 (balloc0 (hK2_4)) hb5
  have hK3_5 : Below w3.heap.size w3 w5 := btrans0 (balloc0 (hK3_4)) hb5
  have hK4_5 : Below w4.heap.size w4 w5 := btrans0 (balloc0 (Below.refl _ _)) hb5
  have y5 := hb5.size
  (try simp at y5)
  have zb5 : w.heap.size < w5.heap.size := by omega
  have Ab : w5.heap[w.heap.size]? = some (.cells (bunC b (.slice ua b.blocks.length uc)).toArray 28 (0, 0)) := (hb5.block _ (by first | exact zb4 | (simp; done) | (simp; omega) | omega)).trans (by repeat (first | exact HAb.out | exact heap_new | exact heap_new' (by first | rfl | (simp; done)) | refine (Below.heap_alloc _ _ _ (by first | omega | (simp; done) | (simp; omega))).trans ?_))
  clear cab HAb
  have cab := fun o => cellB Ab o
  have HAb := Lib.hid Ab
  simp only [bunC] at cab
  clear Ab
  have zP5 : w2.heap.size < w5.heap.size := by omega
  have AP : w5.heap[w2.heap.size]? = some (.cells (bunC P (.slice va2 P.blocks.length vc2)).toArray 28 (0, 0)) := (hb5.block _ (by first | exact zP4 | (simp; done) | (simp; omega) | omega)).trans (by repeat (first | exact HAP.out | exact heap_new | exact heap_new' (by first | rfl | (simp; done)) | refine (Below.heap_alloc _ _ _ (by first | omega | (simp; done) | (simp; omega))).trans ?_))
  clear caP HAP
  have caP := fun o => cellB AP o
  have HAP := Lib.hid AP
  simp only [bunC] at caP
  clear AP
  have zQ5 : w3.heap.size < w5.heap.size := by omega
  have AQ : w5.heap[w3.heap.size]? = some (.cells (bunC Q (.slice va3 Q.blocks.length vc3)).toArray 28 (0, 0)) := (hb5.block _ (by first | exact zQ4 | (simp; done) | (simp; omega) | omega)).trans (by repeat (first | exact HAQ.out | exact heap_new | exact heap_new' (by first | rfl | (simp; done)) | refine (Below.heap_alloc _ _ _ (by first | omega | (simp; done) | (simp; omega))).trans ?_))
  clear caQ HAQ
  have caQ := fun o => cellB AQ o
  have HAQ := Lib.hid AQ
  simp only [bunC] at caQ
  clear AQ
  have zag5 : w4.heap.size < w5.heap.size := by omega
  have Aag : w5.heap[w4.heap.size]? = some (.cells (bunC P (.slice va4 P.blocks.length vc4)).toArray 28 (0, 0)) := (hb5.block _ (by first | exact zag4 | (simp; done) | (simp; omega) | omega)).trans (by repeat (first | exact HAag.out | exact heap_new | exact heap_new' (by first | rfl | (simp; done)) | refine (Below.heap_alloc _ _ _ (by first | omega | (simp; done) | (simp; omega))).trans ?_))
  have caag := fun o => cellB Aag o
  have HAag := Lib.hid Aag
  simp only [bunC] at caag
  clear Aag
  clear hb5
  go_wp2_with fail
  refine (lsame_any P _ _ _ (HV4.out.below' (hK4_5)) (HV2.out.below' (hK2_5))).mono ?_
  rintro e w6 ⟨rfl, hb6⟩
  have hB6 : Below w.heap.size w w6 := btrans0 (hB5) hb6
  have hK2_6 : Below w2.heap.size w2 w6 := btrans0 (hK2_5) hb6
  have hK3_6 : Below w3.heap.size w3 w6 := btrans0 (hK3_5) hb6
  have hK4_6 : Below w4.heap.size w4 w6 := btrans0 (hK4_5) hb6
  have y6 := hb6.size
  (try simp at y6)
  have zb6 : w.heap.size < w6.heap.size := by omega
  have Ab : w6.heap[w.heap.size]? = some (.cells (bunC b (.slice ua b.blocks.length uc)).toArray 28 (0, 0)) := (hb6.block _ (by first | exact zb5 | (simp; done) | (simp; omega) | omega)).trans (by repeat (first | exact HAb.out | exact heap_new | exact heap_new' (by first | rfl | (simp; done)) | refine (Below.heap_alloc _ _ _ (by first | omega | (simp; done) | (simp; omega))).trans ?_))
  clear cab HAb
  have cab := fun o => cellB Ab o
  have HAb := Lib.hid Ab
  simp only [bunC] at cab
  clear Ab
  have zP6 : w2.heap.size < w6.heap.size := by omega
  have AP : w6.heap[w2.heap.size]? = some (.cells (bunC P (.slice va2 P.blocks.length vc2)).toArray 28 (0, 0)) := (hb6.block _ (by first | exact zP5 | (simp; done) | (simp; omega) | omega)).trans (by repeat (first | exact HAP.out | exact heap_new | exact heap_new' (by first | rfl | (simp; done)) | refine (Below.heap_alloc _ _ _ (by first | omega | (simp; done) | (simp; omega))).trans ?_))
  clear caP HAP
  have caP := fun o => cellB AP o
  have HAP := Lib.hid AP
  simp only [bunC] at caP
  clear AP
  have zQ6 : w3.heap.size < w6.heap.size := by omega
  have AQ : w6.heap[w3.heap.size]? = some (.cells (bunC Q (.slice va3 Q.blocks.length vc3)).toArray 28 (0, 0)) := (hb6.block _ (by first | exact zQ5 | (simp; done) | (simp; omega) | omega)).trans (by repeat (first | exact HAQ.out | exact heap_new | exact heap_new' (by first | rfl | (simp; done)) | refine (Below.heap_alloc _ _ _ (by first | omega | (simp; done) | (simp; omega))).trans ?_))
  clear caQ HAQ
  have caQ := fun o => cellB AQ o
  have HAQ := Lib.hid AQ
  simp only [bunC] at caQ
  clear AQ
  have zag6 : w4.heap.size < w6.heap.size := by omega
  have Aag : w6.heap[w4.heap.size]? = some (.cells (bunC P (.slice va4 P.blocks.length vc4)).toArray 28 (0, 0)) := (hb6.block _ (by first | exact zag5 | (simp; done) | (simp; omega) | omega)).trans (by repeat (first | exact HAag.out | exact heap_new | exact heap_new' (by first | rfl | (simp; done)) | refine (Below.heap_alloc _ _ _ (by first | omega | (simp; done) | (simp; omega))).trans ?_))
  clear caag HAag
  have caag := fun o => cellB Aag o
  have HAag := Lib.hid Aag
  simp only [bunC] at caag
  clear Aag
  clear hb6
  go_wp2_with fail
  refine (awake_any _).mono ?_
  rintro e w99 ⟨rfl, hb99⟩
  go_wp2
  go_ret
  exact ⟨rfl, (by repeat' (first | with_reducible (first | refine bset ?_ ?_ | exact Below.refl _ _ | assumption | refine bdrewN ?_ _ | refine bdrew ?_ | refine balloc0 ?_ | refine balloc ?_ ?_ | (apply btrans0; rotate_left; assumption) | (apply btrans; rotate_left; assumption)) | exact Below.refl _ _ | assumption | (apply btrans0; rotate_left; assumption) | (apply btrans; rotate_left; assumption) | (simp; done) | omega | (simp; omega)))⟩
set_option maxRecDepth 100000 in
set_option maxHeartbeats 16000000 in
theorem walk01 (b : Bun) (u : Value) (x l c : Int) (w : World) (hr : RBlks w w.heap.size u b.blocks) (hf : Fits b) (P : Bun) (PE : Int) (hP : setAgeS b x = (P, PE)) (hPE : PE ≠ 0) (Q : Bun) (hQ : setHopS b l c = (Q, 0)) :
    Calls Try.prog 5 #[.agg (bunC b u).toArray, .int .i64 x, .int .i64 l, .int .i64 c] w (Says w) := by
  have HP := Lib.hid hP
  have HQ := Lib.hid hQ
  have k1 : (PE == 0) = false := beq_eq_false_iff_ne.2 hPE
  have k2 : (PE != 0) = true := by rw [bne_iff_ne]; exact hPE
  obtain ⟨_, qa, qg⟩ := hop_set hQ
  have fq := fits_hop (x := l) (y := c) hf
  rw [hQ] at fq
  have HQA := Lib.hid qa
  have HQG := Lib.hid qg
  have FQ := Lib.hid fq
  clear hP hQ hPE qa qg fq
  obtain ⟨ua, uc, rfl, _⟩ := id hr
  have HR := Lib.hid hr
  have HF := Lib.hid hf
  clear hr hf
  go_enter Try.func5, Try.ntmps5
  simp only [bunC]
  go_wp2_with fail
  refine (bgreat_any b _ _ (HR.out.below' (balloc0 (Below.refl _ _))) HF.out).mono ?_
  rintro e w1 ⟨g, rfl, hb1⟩
  have hB1 : Below w.heap.size w w1 := btrans0 (balloc0 (Below.refl _ _)) hb1
  have y1 := hb1.size
  (try simp at y1)
  have zb1 : w.heap.size < w1.heap.size := by omega
  have Ab : w1.heap[w.heap.size]? = some (.cells (bunC b (.slice ua b.blocks.length uc)).toArray 28 (0, 0)) := (hb1.block _ (by first | exact zb0 | (simp; done) | (simp; omega) | omega)).trans (by repeat (first | exact HAb.out | exact heap_new | exact heap_new' (by first | rfl | (simp; done)) | refine (Below.heap_alloc _ _ _ (by first | omega | (simp; done) | (simp; omega))).trans ?_))
  have cab := fun o => cellB Ab o
  have HAb := Lib.hid Ab
  simp only [bunC] at cab
  clear Ab
  clear hb1
  cases g
  case true =>
    go_wp2_with fail
    refine (awake_any _).mono ?_
    rintro e w99 ⟨rfl, hb99⟩
    go_wp2
    go_ret
    exact ⟨rfl, (by repeat' (first | with_reducible (first | refine bset ?_ ?_ | exact Below.refl _ _ | assumption | refine bdrewN ?_ _ | refine bdrew ?_ | refine balloc0 ?_ | refine balloc ?_ ?_ | (apply btrans0; rotate_left; assumption) | (apply btrans; rotate_left; assumption)) | exact Below.refl _ _ | assumption | (apply btrans0; rotate_left; assumption) | (apply btrans; rotate_left; assumption) | (simp; done) | omega | (simp; omega)))⟩
  go_wp2_with fail
  refine (setAge_any b _ x _ (HR.out.below' (hB1)) HF.out).mono ?_
  unfold BunPost
  rw [HP.out]
  simp only
  rintro e w2 ⟨v2, rfl, hv2, hrf, hb2⟩
  have hB2 : Below w.heap.size w w2 := btrans0 (hB1) hb2
  have y2 := hb2.size
  (try simp at y2)
  have zb2 : w.heap.size < w2.heap.size := by omega
  have Ab : w2.heap[w.heap.size]? = some (.cells (bunC b (.slice ua b.blocks.length uc)).toArray 28 (0, 0)) := (hb2.block _ (by first | exact zb1 | (simp; done) | (simp; omega) | omega)).trans (by repeat (first | exact HAb.out | exact heap_new | exact heap_new' (by first | rfl | (simp; done)) | refine (Below.heap_alloc _ _ _ (by first | omega | (simp; done) | (simp; omega))).trans ?_))
  clear cab HAb
  have cab := fun o => cellB Ab o
  have HAb := Lib.hid Ab
  simp only [bunC] at cab
  clear Ab
  obtain ⟨va2, vc2, rfl, _⟩ := id hv2
  have HV2 := Lib.hid hv2
  clear hv2 hrf
  clear hb2
  go_wp2_with fail
  refine (setHops_any b _ l c _ (HR.out.below' (balloc0 (hB2))) HF.out).mono ?_
  unfold BunPost
  rw [HQ.out]
  simp only
  rintro e w3 ⟨v3, rfl, hv3, hrf, hb3⟩
  have hB3 : Below w.heap.size w w3 := btrans0 (balloc0 (hB2)) hb3
  have hK2_3 : Below w2.heap.size w2 w3 := btrans0 (balloc0 (Below.refl _ _)) hb3
  have y3 := hb3.size
  (try simp at y3)
  have zb3 : w.heap.size < w3.heap.size := by omega
  have Ab : w3.heap[w.heap.size]? = some (.cells (bunC b (.slice ua b.blocks.length uc)).toArray 28 (0, 0)) := (hb3.block _ (by first | exact zb2 | (simp; done) | (simp; omega) | omega)).trans (by repeat (first | exact HAb.out | exact heap_new | exact heap_new' (by first | rfl | (simp; done)) | refine (Below.heap_alloc _ _ _ (by first | omega | (simp; done) | (simp; omega))).trans ?_))
  clear cab HAb
  have cab := fun o => cellB Ab o
  have HAb := Lib.hid Ab
  simp only [bunC] at cab
  clear Ab
  have zP3 : w2.heap.size < w3.heap.size := by omega
  have AP : w3.heap[w2.heap.size]? = some (.cells (bunC P (.slice va2 P.blocks.length vc2)).toArray 28 (0, 0)) := (hb3.block _ (by first | exact zP2 | (simp; done) | (simp; omega) | omega)).trans (by repeat (first | exact HAP.out | exact heap_new | exact heap_new' (by first | rfl | (simp; done)) | refine (Below.heap_alloc _ _ _ (by first | omega | (simp; done) | (simp; omega))).trans ?_))
  have caP := fun o => cellB AP o
  have HAP := Lib.hid AP
  simp only [bunC] at caP
  clear AP
  obtain ⟨va3, vc3, rfl, _⟩ := id hv3
  have HV3 := Lib.hid hv3
  clear hv3 hrf
  clear hb3
  go_wp2_with fail
  refine (setHops_any Q _ l c _ (HV3.out.below' (balloc0 (Below.refl _ _))) FQ.out).mono ?_
  unfold BunPost
  rw [HQA.out]
  simp only
  rintro e w4 ⟨v4, rfl, hv4, hrf, hb4⟩
  have hB4 : Below w.heap.size w w4 := btrans0 (balloc0 (hB3)) hb4
  have hK2_4 : Below w2.heap.size w2 w4 := btrans0 (balloc0 (hK2_3)) hb4
  have hK3_4 : Below w3.heap.size w3 w4 := btrans0 (balloc0 (Below.refl _ _)) hb4
  have y4 := hb4.size
  (try simp at y4)
  have zb4 : w.heap.size < w4.heap.size := by omega
  have Ab : w4.heap[w.heap.size]? = some (.cells (bunC b (.slice ua b.blocks.length uc)).toArray 28 (0, 0)) := (hb4.block _ (by first | exact zb3 | (simp; done) | (simp; omega) | omega)).trans (by repeat (first | exact HAb.out | exact heap_new | exact heap_new' (by first | rfl | (simp; done)) | refine (Below.heap_alloc _ _ _ (by first | omega | (simp; done) | (simp; omega))).trans ?_))
  clear cab HAb
  have cab := fun o => cellB Ab o
  have HAb := Lib.hid Ab
  simp only [bunC] at cab
  clear Ab
  have zP4 : w2.heap.size < w4.heap.size := by omega
  have AP : w4.heap[w2.heap.size]? = some (.cells (bunC P (.slice va2 P.blocks.length vc2)).toArray 28 (0, 0)) := (hb4.block _ (by first | exact zP3 | (simp; done) | (simp; omega) | omega)).trans (by repeat (first | exact HAP.out | exact heap_new | exact heap_new' (by first | rfl | (simp; done)) | refine (Below.heap_alloc _ _ _ (by first | omega | (simp; done) | (simp; omega))).trans ?_))
  clear caP HAP
  have caP := fun o => cellB AP o
  have HAP := Lib.hid AP
  simp only [bunC] at caP
  clear AP
  have zQ4 : w3.heap.size < w4.heap.size := by omega
  have AQ : w4.heap[w3.heap.size]? = some (.cells (bunC Q (.slice va3 Q.blocks.length vc3)).toArray 28 (0, 0)) := (hb4.block _ (by first | exact zQ3 | (simp; done) | (simp; omega) | omega)).trans (by repeat (first | exact HAQ.out | exact heap_new | exact heap_new' (by first | rfl | (simp; done)) | refine (Below.heap_alloc _ _ _ (by first | omega | (simp; done) | (simp; omega))).trans ?_))
  have caQ := fun o => cellB AQ o
  have HAQ := Lib.hid AQ
  simp only [bunC] at caQ
  clear AQ
  obtain ⟨va4, vc4, rfl, _⟩ := id hv4
  have HV4 := Lib.hid hv4
  clear hv4 hrf
  clear hb4
  go_wp2_with fail
  refine (hops_any Q _ _ (HV3.out.below' (balloc0 (hK3_4))) FQ.out).mono ?_
  rw [HQG.out]
  simp only
  rintro e w5 ⟨rfl, hb5⟩
  have hB5 : Below w.heap.size w w5 := btrans0 (balloc0 (hB4)) hb5
  have hK2_5 : Below w2.heap.size w2 w5 := btrans0 (balloc0 (hK2_4)) hb5
  have hK3_5 : Below w3.heap.size w3 w5 := btrans0 (balloc0 (hK3_4)) hb5
  have hK4_5 : Below w4.heap.size w4 w5 := btrans0 (balloc0 (Below.refl _ _)) hb5
  have y5 := hb5.size
  (try simp at y5)
  have zb5 : w.heap.size < w5.heap.size := by omega
  have Ab : w5.heap[w.heap.size]? = some (.cells (bunC b (.slice ua b.blocks.length uc)).toArray 28 (0, 0)) := (hb5.block _ (by first | exact zb4 | (simp; done) | (simp; omega) | omega)).trans (by repeat (first | exact HAb.out | exact heap_new | exact heap_new' (by first | rfl | (simp; done)) | refine (Below.heap_alloc _ _ _ (by first | omega | (simp; done) | (simp; omega))).trans ?_))
  clear cab HAb
  have cab := fun o => cellB Ab o
  have HAb := Lib.hid Ab
  simp only [bunC] at cab
  clear Ab
  have zP5 : w2.heap.size < w5.heap.size := by omega
  have AP : w5.heap[w2.heap.size]? = some (.cells (bunC P (.slice va2 P.blocks.length vc2)).toArray 28 (0, 0)) := (hb5.block _ (by first | exact zP4 | (simp; done) | (simp; omega) | omega)).trans (by repeat (first | exact HAP.out | exact heap_new | exact heap_new' (by first | rfl | (simp; done)) | refine (Below.heap_alloc _ _ _ (by first | omega | (simp; done) | (simp; omega))).trans ?_))
  clear caP HAP
  have caP := fun o => cellB AP o
  have HAP := Lib.hid AP
  simp only [bunC] at caP
  clear AP
  have zQ5 : w3.heap.size < w5.heap.size := by omega
  have AQ : w5.heap[w3.heap.size]? = some (.cells (bunC Q (.slice va3 Q.blocks.length vc3)).toArray 28 (0, 0)) := (hb5.block _ (by first | exact zQ4 | (simp; done) | (simp; omega) | omega)).trans (by repeat (first | exact HAQ.out | exact heap_new | exact heap_new' (by first | rfl | (simp; done)) | refine (Below.heap_alloc _ _ _ (by first | omega | (simp; done) | (simp; omega))).trans ?_))
  clear caQ HAQ
  have caQ := fun o => cellB AQ o
  have HAQ := Lib.hid AQ
  simp only [bunC] at caQ
  clear AQ
  have zah5 : w4.heap.size < w5.heap.size := by omega
  have Aah : w5.heap[w4.heap.size]? = some (.cells (bunC Q (.slice va4 Q.blocks.length vc4)).toArray 28 (0, 0)) := (hb5.block _ (by first | exact zah4 | (simp; done) | (simp; omega) | omega)).trans (by repeat (first | exact HAah.out | exact heap_new | exact heap_new' (by first | rfl | (simp; done)) | refine (Below.heap_alloc _ _ _ (by first | omega | (simp; done) | (simp; omega))).trans ?_))
  have caah := fun o => cellB Aah o
  have HAah := Lib.hid Aah
  simp only [bunC] at caah
  clear Aah
  clear hb5
  go_wp2_with fail
  refine (lsame_any Q _ _ _ (HV4.out.below' (hK4_5)) (HV3.out.below' (hK3_5))).mono ?_
  rintro e w6 ⟨rfl, hb6⟩
  have hB6 : Below w.heap.size w w6 := btrans0 (hB5) hb6
  have hK2_6 : Below w2.heap.size w2 w6 := btrans0 (hK2_5) hb6
  have hK3_6 : Below w3.heap.size w3 w6 := btrans0 (hK3_5) hb6
  have hK4_6 : Below w4.heap.size w4 w6 := btrans0 (hK4_5) hb6
  have y6 := hb6.size
  (try simp at y6)
  have zb6 : w.heap.size < w6.heap.size := by omega
  have Ab : w6.heap[w.heap.size]? = some (.cells (bunC b (.slice ua b.blocks.length uc)).toArray 28 (0, 0)) := (hb6.block _ (by first | exact zb5 | (simp; done) | (simp; omega) | omega)).trans (by repeat (first | exact HAb.out | exact heap_new | exact heap_new' (by first | rfl | (simp; done)) | refine (Below.heap_alloc _ _ _ (by first | omega | (simp; done) | (simp; omega))).trans ?_))
  clear cab HAb
  have cab := fun o => cellB Ab o
  have HAb := Lib.hid Ab
  simp only [bunC] at cab
  clear Ab
  have zP6 : w2.heap.size < w6.heap.size := by omega
  have AP : w6.heap[w2.heap.size]? = some (.cells (bunC P (.slice va2 P.blocks.length vc2)).toArray 28 (0, 0)) := (hb6.block _ (by first | exact zP5 | (simp; done) | (simp; omega) | omega)).trans (by repeat (first | exact HAP.out | exact heap_new | exact heap_new' (by first | rfl | (simp; done)) | refine (Below.heap_alloc _ _ _ (by first | omega | (simp; done) | (simp; omega))).trans ?_))
  clear caP HAP
  have caP := fun o => cellB AP o
  have HAP := Lib.hid AP
  simp only [bunC] at caP
  clear AP
  have zQ6 : w3.heap.size < w6.heap.size := by omega
  have AQ : w6.heap[w3.heap.size]? = some (.cells (bunC Q (.slice va3 Q.blocks.length vc3)).toArray 28 (0, 0)) := (hb6.block _ (by first | exact zQ5 | (simp; done) | (simp; omega) | omega)).trans (by repeat (first | exact HAQ.out | exact heap_new | exact heap_new' (by first | rfl | (simp; done)) | refine (Below.heap_alloc _ _ _ (by first | omega | (simp; done) | (simp; omega))).trans ?_))
  clear caQ HAQ
  have caQ := fun o => cellB AQ o
  have HAQ := Lib.hid AQ
  simp only [bunC] at caQ
  clear AQ
  have zah6 : w4.heap.size < w6.heap.size := by omega
  have Aah : w6.heap[w4.heap.size]? = some (.cells (bunC Q (.slice va4 Q.blocks.length vc4)).toArray 28 (0, 0)) := (hb6.block _ (by first | exact zah5 | (simp; done) | (simp; omega) | omega)).trans (by repeat (first | exact HAah.out | exact heap_new | exact heap_new' (by first | rfl | (simp; done)) | refine (Below.heap_alloc _ _ _ (by first | omega | (simp; done) | (simp; omega))).trans ?_))
  clear caah HAah
  have caah := fun o => cellB Aah o
  have HAah := Lib.hid Aah
  simp only [bunC] at caah
  clear Aah
  clear hb6
  go_wp2_with fail
  refine (awake_any _).mono ?_
  rintro e w99 ⟨rfl, hb99⟩
  go_wp2
  go_ret
  exact ⟨rfl, (by repeat' (first | with_reducible (first | refine bset ?_ ?_ | exact Below.refl _ _ | assumption | refine bdrewN ?_ _ | refine bdrew ?_ | refine balloc0 ?_ | refine balloc ?_ ?_ | (apply btrans0; rotate_left; assumption) | (apply btrans; rotate_left; assumption)) | exact Below.refl _ _ | assumption | (apply btrans0; rotate_left; assumption) | (apply btrans; rotate_left; assumption) | (simp; done) | omega | (simp; omega)))⟩
set_option maxRecDepth 100000 in
set_option maxHeartbeats 16000000 in
theorem walk00 (b : Bun) (u : Value) (x l c : Int) (w : World) (hr : RBlks w w.heap.size u b.blocks) (hf : Fits b) (P : Bun) (PE : Int) (hP : setAgeS b x = (P, PE)) (hPE : PE ≠ 0) (Q : Bun) (QE : Int) (hQ : setHopS b l c = (Q, QE)) (hQE : QE ≠ 0) :
    Calls Try.prog 5 #[.agg (bunC b u).toArray, .int .i64 x, .int .i64 l, .int .i64 c] w (Says w) := by
  have HP := Lib.hid hP
  have HQ := Lib.hid hQ
  have k1 : (PE == 0) = false := beq_eq_false_iff_ne.2 hPE
  have k2 : (PE != 0) = true := by rw [bne_iff_ne]; exact hPE
  have j1 : (QE == 0) = false := beq_eq_false_iff_ne.2 hQE
  have j2 : (QE != 0) = true := by rw [bne_iff_ne]; exact hQE
  clear hP hQ hPE hQE
  obtain ⟨ua, uc, rfl, _⟩ := id hr
  have HR := Lib.hid hr
  have HF := Lib.hid hf
  clear hr hf
  go_enter Try.func5, Try.ntmps5
  simp only [bunC]
  go_wp2_with fail
  refine (bgreat_any b _ _ (HR.out.below' (balloc0 (Below.refl _ _))) HF.out).mono ?_
  rintro e w1 ⟨g, rfl, hb1⟩
  have hB1 : Below w.heap.size w w1 := btrans0 (balloc0 (Below.refl _ _)) hb1
  have y1 := hb1.size
  (try simp at y1)
  have zb1 : w.heap.size < w1.heap.size := by omega
  have Ab : w1.heap[w.heap.size]? = some (.cells (bunC b (.slice ua b.blocks.length uc)).toArray 28 (0, 0)) := (hb1.block _ (by first | exact zb0 | (simp; done) | (simp; omega) | omega)).trans (by repeat (first | exact HAb.out | exact heap_new | exact heap_new' (by first | rfl | (simp; done)) | refine (Below.heap_alloc _ _ _ (by first | omega | (simp; done) | (simp; omega))).trans ?_))
  have cab := fun o => cellB Ab o
  have HAb := Lib.hid Ab
  simp only [bunC] at cab
  clear Ab
  clear hb1
  cases g
  case true =>
    go_wp2_with fail
    refine (awake_any _).mono ?_
    rintro e w99 ⟨rfl, hb99⟩
    go_wp2
    go_ret
    exact ⟨rfl, (by repeat' (first | with_reducible (first | refine bset ?_ ?_ | exact Below.refl _ _ | assumption | refine bdrewN ?_ _ | refine bdrew ?_ | refine balloc0 ?_ | refine balloc ?_ ?_ | (apply btrans0; rotate_left; assumption) | (apply btrans; rotate_left; assumption)) | exact Below.refl _ _ | assumption | (apply btrans0; rotate_left; assumption) | (apply btrans; rotate_left; assumption) | (simp; done) | omega | (simp; omega)))⟩
  go_wp2_with fail
  refine (setAge_any b _ x _ (HR.out.below' (hB1)) HF.out).mono ?_
  unfold BunPost
  rw [HP.out]
  simp only
  rintro e w2 ⟨v2, rfl, hv2, hrf, hb2⟩
  have hB2 : Below w.heap.size w w2 := btrans0 (hB1) hb2
  have y2 := hb2.size
  (try simp at y2)
  have zb2 : w.heap.size < w2.heap.size := by omega
  have Ab : w2.heap[w.heap.size]? = some (.cells (bunC b (.slice ua b.blocks.length uc)).toArray 28 (0, 0)) := (hb2.block _ (by first | exact zb1 | (simp; done) | (simp; omega) | omega)).trans (by repeat (first | exact HAb.out | exact heap_new | exact heap_new' (by first | rfl | (simp; done)) | refine (Below.heap_alloc _ _ _ (by first | omega | (simp; done) | (simp; omega))).trans ?_))
  clear cab HAb
  have cab := fun o => cellB Ab o
  have HAb := Lib.hid Ab
  simp only [bunC] at cab
  clear Ab
  obtain ⟨va2, vc2, rfl, _⟩ := id hv2
  have HV2 := Lib.hid hv2
  clear hv2 hrf
  clear hb2
  go_wp2_with fail
  refine (setHops_any b _ l c _ (HR.out.below' (balloc0 (hB2))) HF.out).mono ?_
  unfold BunPost
  rw [HQ.out]
  simp only
  rintro e w3 ⟨v3, rfl, hv3, hrf, hb3⟩
  have hB3 : Below w.heap.size w w3 := btrans0 (balloc0 (hB2)) hb3
  have hK2_3 : Below w2.heap.size w2 w3 := btrans0 (balloc0 (Below.refl _ _)) hb3
  have y3 := hb3.size
  (try simp at y3)
  have zb3 : w.heap.size < w3.heap.size := by omega
  have Ab : w3.heap[w.heap.size]? = some (.cells (bunC b (.slice ua b.blocks.length uc)).toArray 28 (0, 0)) := (hb3.block _ (by first | exact zb2 | (simp; done) | (simp; omega) | omega)).trans (by repeat (first | exact HAb.out | exact heap_new | exact heap_new' (by first | rfl | (simp; done)) | refine (Below.heap_alloc _ _ _ (by first | omega | (simp; done) | (simp; omega))).trans ?_))
  clear cab HAb
  have cab := fun o => cellB Ab o
  have HAb := Lib.hid Ab
  simp only [bunC] at cab
  clear Ab
  have zP3 : w2.heap.size < w3.heap.size := by omega
  have AP : w3.heap[w2.heap.size]? = some (.cells (bunC P (.slice va2 P.blocks.length vc2)).toArray 28 (0, 0)) := (hb3.block _ (by first | exact zP2 | (simp; done) | (simp; omega) | omega)).trans (by repeat (first | exact HAP.out | exact heap_new | exact heap_new' (by first | rfl | (simp; done)) | refine (Below.heap_alloc _ _ _ (by first | omega | (simp; done) | (simp; omega))).trans ?_))
  have caP := fun o => cellB AP o
  have HAP := Lib.hid AP
  simp only [bunC] at caP
  clear AP
  obtain ⟨va3, vc3, rfl, _⟩ := id hv3
  have HV3 := Lib.hid hv3
  clear hv3 hrf
  clear hb3
  go_wp2_with fail
  refine (awake_any _).mono ?_
  rintro e w99 ⟨rfl, hb99⟩
  go_wp2
  go_ret
  exact ⟨rfl, (by repeat' (first | with_reducible (first | refine bset ?_ ?_ | exact Below.refl _ _ | assumption | refine bdrewN ?_ _ | refine bdrew ?_ | refine balloc0 ?_ | refine balloc ?_ ?_ | (apply btrans0; rotate_left; assumption) | (apply btrans; rotate_left; assumption)) | exact Below.refl _ _ | assumption | (apply btrans0; rotate_left; assumption) | (apply btrans; rotate_left; assumption) | (simp; done) | omega | (simp; omega)))⟩
theorem walk (b : Bun) (u : Value) (x l c : Int) (w : World) (hr : RBlks w w.heap.size u b.blocks) (hf : Fits b) :
    Calls Try.prog 5 #[.agg (bunC b u).toArray, .int .i64 x, .int .i64 l, .int .i64 c] w (Says w) := by
  obtain ⟨⟨P, PE⟩, hP⟩ : ∃ q, setAgeS b x = q := ⟨_, rfl⟩
  obtain ⟨⟨Q, QE⟩, hQ⟩ : ∃ q, setHopS b l c = q := ⟨_, rfl⟩
  by_cases e : PE = 0
  · subst e
    by_cases f : QE = 0
    · subst f; exact walk11 b u x l c w hr hf P hP Q hQ
    · exact walk10 b u x l c w hr hf P hP Q QE hQ f
  · by_cases f : QE = 0
    · subst f; exact walk01 b u x l c w hr hf P PE hP e Q hQ
    · exact walk00 b u x l c w hr hf P PE hP e Q QE hQ f

set_option maxRecDepth 100000 in
theorem lifted (os : Os) (started : os.Started) (H : Type) (enc : TypeId × Value → H) :
    ReturnsInHanded {} Try.checked os 5 .any (Rows.extensionSetsSpec.pre6 enc Try.prog Try.f5 Rows.extensionSetsRow.domain false) (Rows.extensionSetsSpec.post enc Try.prog Try.f5 false true false false) := by
  refine returnsInHanded_of_change (C := Try.checked) own started (by kernel_rfl) Try.func5
    (ChangeSpec.witness6 (enc := enc) (C := Try.checked) false ⟨#[], #[.agg #[.int .i64 0, .int .i64 0, .int .i64 0, .int .i64 0, .int .i64 0, .int .i64 0, .int .i64 0, .int .i64 0, .int .i64 0, .int .i64 0, .slice none 0 0, .string (B [])], .int .i64 0, .int .i64 0, .int .i64 0], []⟩ 8 (by kernel_rfl) (by kernel_rfl) (by kernel_rfl) (by kernel_rfl)) ?_
  intro W base args ds gs before hval0 hW hcnd _
  have hval : ∀ (j : Nat) t v, Try.f5.params[j]? = some t → args[j]? = some v → Value.okWide Try.prog W .any base t v := hval0
  have hW' := hW
  obtain ⟨p, q, hA0, hV, rfl, hfz, hnd⟩ := hW
  have hA : DataW.TrodAll enc Try.prog W 0 (fun _ => true) true Try.f5.params.toList args.toList ds p := hA0
  rw [Try.params5] at hA hval
  obtain ⟨v0, vs0, d0, ds0, p0, q0, hargs, rfl, rfl, h0, r0⟩ := trodAll_cons hA
  obtain ⟨v1, vs1, d1, ds1, p1, q1, rfl, rfl, rfl, h1, r1⟩ := trodAll_cons r0
  obtain ⟨v2, vs2, d2, ds2, p2, q2, rfl, rfl, rfl, h2, r2⟩ := trodAll_cons r1
  obtain ⟨v3, vs3, d3, ds3, p3, q3, rfl, rfl, rfl, h3, r3⟩ := trodAll_cons r2
  obtain ⟨rfl, rfl, rfl⟩ := trodAll_nil r3
  obtain rfl : args = #[v0, v1, v2, v3] := by cases args; simp_all
  obtain ⟨x0, u0, rfl, hr0, hf0⟩ := open_bun (hval 0 28 v0 rfl rfl) h0
  obtain ⟨x1, rfl, _, _, wx1⟩ := open_int Try.underlying3 (hval 1 3 v1 rfl rfl) h1
  obtain ⟨x2, rfl, _, _, wx2⟩ := open_int Try.underlying3 (hval 2 3 v2 rfl rfl) h2
  obtain ⟨x3, rfl, _, _, wx3⟩ := open_int Try.underlying3 (hval 3 3 v3 rfl rfl) h3
  refine (walk x0 u0 x1 x2 x3 W hr0 hf0).mono fun e W' ⟨he, hB⟩ => ?_
  subst he
  refine ⟨_, rfl, law_post (by kernel_rfl) (by kernel_rfl) rfl Try.underlying4 rfl ?_ hW' hB⟩
  intro es hes
  match es, hes with
  | [_, _, _, _], _ => rfl

theorem proved : Rows.ExtensionSetsSaid :=
  OpenClaim.holds_of_wide 5 Try.f5 rfl rfl rfl rfl rfl rfl rfl ⟨rfl, rfl, rfl, rfl, rfl⟩ rfl rfl rfl rfl rfl (by kernel_rfl) Try.func5 (by kernel_rfl)
    (of_decide_eq_true (by kernel_rfl)) (by unfold Func.isWrapper; first | (rw [if_pos (by decide +kernel)]; kernel_rfl) | (rw [if_neg (by decide +kernel)]; exact ⟨rfl, rfl⟩))
    (fun os started H enc _ => lifted os started H enc)
#print axioms proved
end Go.Proofs.Ythgokfceakbjlaa.extensionSets
