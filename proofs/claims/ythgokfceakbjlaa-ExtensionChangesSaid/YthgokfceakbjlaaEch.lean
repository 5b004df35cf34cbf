/-
  Proved: mailboatlaw14.ExtensionChanges returns true for every input, and leaves its arguments as they were. No condition.
-/
import Derived.Test.YthgokfceakbjlaaRows
import Derived.Test.YthgokfceakbjlaaJa
import Derived.Test.YthgokfceakbjlaaJn
import Derived.Test.YthgokfceakbjlaaIl
import Derived.Test.YthgokfceakbjlaaIi
import Derived.Test.YthgokfceakbjlaaIj
import Derived.Test.YthgokfceakbjlaaAx
import Derived.Test.YthgokfceakbjlaaAw
set_option linter.unusedVariables false
set_option linter.unusedSimpArgs false
namespace Go.Proofs.Ythgokfceakbjlaa.extensionChanges
open Go Go.ChangeShapes Go.WideShapes Go.ChangeAt Go.RowKit Go.Joins Go.Proofs.Ythgokfceakbjlaa
attribute [local go_sem] B_getElem B_size B_app B_extract B_get B_toList

theorem own : ownKnob Try.prog.godebug = none := by kernel_rfl

attribute [local go_sem] bunC
set_option maxRecDepth 100000 in
set_option maxHeartbeats 16000000 in
theorem walk (b : Bun) (u : Value) (x y n : Int) (w : World) (hr : RBlks w w.heap.size u b.blocks) (hf : Fits b) :
    Calls Try.prog 4 #[.agg (bunC b u).toArray, .int .i64 x, .int .i64 y, .int .i64 n] w (Says w) := by
  obtain ⟨ua, uc, rfl, _⟩ := id hr
  have HR := Lib.hid hr
  have HF := Lib.hid hf
  clear hr hf
  obtain ⟨⟨P, PE⟩, hHP⟩ : ∃ q, setAgeS b x = q := ⟨_, rfl⟩
  have HP := Lib.hid hHP
  obtain ⟨⟨Q, QE⟩, hHQ⟩ : ∃ q, setHopS b x y = q := ⟨_, rfl⟩
  have HQ := Lib.hid hHQ
  obtain ⟨⟨V, VE⟩, hHVI⟩ : ∃ q, visitS b n = q := ⟨_, rfl⟩
  have HVI := Lib.hid hHVI
  obtain ⟨⟨S, SE⟩, hHS⟩ : ∃ q, fwdS b n x = q := ⟨_, rfl⟩
  have HS := Lib.hid hHS
  clear hHP hHQ hHVI hHS
  go_enter Try.func4, Try.ntmps4
  simp only [bunC]
  go_wp2_with fail
  refine (bgreat_any b _ _ (HR.out.below' (balloc0 (Below.refl _ _))) HF.out).mono ?_
  rintro e w1 ⟨g, rfl, hb1⟩
  have hB1 : Below w.heap.size w w1 := btrans0 (balloc0 (Below.refl _ _)) hb1
  have y1 := hb1.size
  (try simp at y1)
  have zb1 : w.heap.size < w1.heap.size := by omega
  have Ab : w1.heap[w.heap.size]? = some (.cells (bunC b (.slice ua b.blocks.length uc)).toArray 28 (0, 0)) := (hb1.block _ (by first | exact zb0 | (simp; done) | (simp; omega) | omega)).trans (by repeat (first | exact HAb.out | exact heap_new | exact heap_new' (by first | rfl | (simp; done)) | refine (Below.heap_alloc _ _ _ (by first | omega | (simp; done) | (simp; omega))).trans ?_))
  have cab := fun o => cellB Ab o
  have HAb := Lib.hid Ab
  simp only [bunC] at cab
  clear Ab
  clear hb1
  cases g
  case true =>
    go_wp2_with fail
    refine (awake_any _).mono ?_
    rintro e w99 ⟨rfl, hb99⟩
    go_wp2
    go_ret
    exact ⟨rfl, (by repeat' (first | (with_reducible refine bset ?_ ?_) | (with_reducible exact Below.refl _ _) | (with_reducible assumption) | (with_reducible refine bdrewN ?_ _) | (with_reducible refine bdrew ?_) | (with_reducible refine balloc0 ?_) | (with_reducible refine balloc ?_ ?_) | (with_reducible apply btrans0; rotate_left; with_reducible assumption) | (with_reducible apply btrans; rotate_left; with_reducible assumption) | exact Below.refl _ _ | assumption | (apply btrans0; rotate_left; assumption) | (apply btrans; rotate_left; assumption) | (simp; done) | omega | (simp; omega)))⟩
  go_wp2_with fail
  refine (setAge_any b _ x _ (HR.out.below' (hB1)) HF.out).mono ?_
  unfold BunPost
  rw [HP.out]
  simp only
  rintro e w2 ⟨v2, rfl, hv2, hrf, hb2⟩
  have hB2 : Below w.heap.size w w2 := btrans0 (hB1) hb2
  have y2 := hb2.size
  (try simp at y2)
  have zb2 : w.heap.size < w2.heap.size := by omega
  have Ab : w2.heap[w.heap.size]? = some (.cells (bunC b (.slice ua b.blocks.length uc)).toArray 28 (0, 0)) := (hb2.block _ (by first | exact zb1 | (simp; done) | (simp; omega) | omega)).trans (by repeat (first | exact HAb.out | exact heap_new | exact heap_new' (by first | rfl | (simp; done)) | refine (Below.heap_alloc _ _ _ (by first | omega | (simp; done) | (simp; omega))).trans ?_))
  clear cab HAb
  have cab := fun o => cellB Ab o
  have HAb := Lib.hid Ab
  simp only [bunC] at cab
  clear Ab
  obtain ⟨va2, vc2, rfl, _⟩ := id hv2
  have HV2 := Lib.hid hv2
  clear hv2 hrf
  clear hb2
  go_wp2_with fail
  refine (rsetAge_any b _ x _ (HR.out.below' (balloc0 (hB2))) HF.out).mono ?_
  unfold FwdPost
  rw [HP.out]
  simp only
  rintro e w3 ⟨v3, rfl, hv3, hb3⟩
  have hB3 : Below w.heap.size w w3 := btrans0 (balloc0 (hB2)) hb3
  have hK2_3 : Below w2.heap.size w2 w3 := btrans0 (balloc0 (Below.refl _ _)) hb3
  have y3 := hb3.size
  (try simp at y3)
  have zb3 : w.heap.size < w3.heap.size := by omega
  have Ab : w3.heap[w.heap.size]? = some (.cells (bunC b (.slice ua b.blocks.length uc)).toArray 28 (0, 0)) := (hb3.block _ (by first | exact zb2 | (simp; done) | (simp; omega) | omega)).trans (by repeat (first | exact HAb.out | exact heap_new | exact heap_new' (by first | rfl | (simp; done)) | refine (Below.heap_alloc _ _ _ (by first | omega | (simp; done) | (simp; omega))).trans ?_))
  clear cab HAb
  have cab := fun o => cellB Ab o
  have HAb := Lib.hid Ab
  simp only [bunC] at cab
  clear Ab
  have zP03 : w2.heap.size < w3.heap.size := by omega
  have AP0 : w3.heap[w2.heap.size]? = some (.cells (bunC P (.slice va2 P.blocks.length vc2)).toArray 28 (0, 0)) := (hb3.block _ (by first | exact zP02 | (simp; done) | (simp; omega) | omega)).trans (by repeat (first | exact HAP0.out | exact heap_new | exact heap_new' (by first | rfl | (simp; done)) | refine (Below.heap_alloc _ _ _ (by first | omega | (simp; done) | (simp; omega))).trans ?_))
  have caP0 := fun o => cellB AP0 o
  have HAP0 := Lib.hid AP0
  simp only [bunC] at caP0
  clear AP0
  obtain ⟨va3, vc3, rfl, _⟩ := id hv3
  have HV3 := Lib.hid hv3
  clear hv3
  clear hb3
  go_wp2_with fail
  refine (setHops_any b _ x y _ (HR.out.below' (balloc0 (hB3))) HF.out).mono ?_
  unfold BunPost
  rw [HQ.out]
  simp only
  rintro e w4 ⟨v4, rfl, hv4, hrf, hb4⟩
  have hB4 : Below w.heap.size w w4 := btrans0 (balloc0 (hB3)) hb4
  have hK2_4 : Below w2.heap.size w2 w4 := btrans0 (balloc0 (hK2_3)) hb4
  have hK3_4 : Below w3.heap.size w3 w4 := btrans0 (balloc0 (Below.refl _ _)) hb4
  have y4 := hb4.size
  (try simp at y4)
  have zb4 : w.heap.size < w4.heap.size := by omega
  have Ab : w4.heap[w.heap.size]? = some (.cells (bunC b (.slice ua b.blocks.length uc)).toArray 28 (0, 0)) := (hb4.block _ (by first | exact zb3 | (simp; done) | (simp; omega) | omega)).trans (by repeat (first | exact HAb.out | exact heap_new | exact heap_new' (by first | rfl | (simp; done)) | refine (Below.heap_alloc _ _ _ (by first | omega | (simp; done) | (simp; omega))).trans ?_))
  clear cab HAb
  have cab := fun o => cellB Ab o
  have HAb := Lib.hid Ab
  simp only [bunC] at cab
  clear Ab
  have zP04 : w2.heap.size < w4.heap.size := by omega
  have AP0 : w4.heap[w2.heap.size]? = some (.cells (bunC P (.slice va2 P.blocks.length vc2)).toArray 28 (0, 0)) := (hb4.block _ (by first | exact zP03 | (simp; done) | (simp; omega) | omega)).trans (by repeat (first | exact HAP0.out | exact heap_new | exact heap_new' (by first | rfl | (simp; done)) | refine (Below.heap_alloc _ _ _ (by first | omega | (simp; done) | (simp; omega))).trans ?_))
  clear caP0 HAP0
  have caP0 := fun o => cellB AP0 o
  have HAP0 := Lib.hid AP0
  simp only [bunC] at caP0
  clear AP0
  have zP14 : w3.heap.size < w4.heap.size := by omega
  have AP1 : w4.heap[w3.heap.size]? = some (.cells (bunC P (.slice va3 P.blocks.length vc3)).toArray 28 (0, 0)) := (hb4.block _ (by first | exact zP13 | (simp; done) | (simp; omega) | omega)).trans (by repeat (first | exact HAP1.out | exact heap_new | exact heap_new' (by first | rfl | (simp; done)) | refine (Below.heap_alloc _ _ _ (by first | omega | (simp; done) | (simp; omega))).trans ?_))
  have caP1 := fun o => cellB AP1 o
  have HAP1 := Lib.hid AP1
  simp only [bunC] at caP1
  clear AP1
  obtain ⟨va4, vc4, rfl, _⟩ := id hv4
  have HV4 := Lib.hid hv4
  clear hv4 hrf
  clear hb4
  go_wp2_with fail
  refine (rsetHops_any b _ x y _ (HR.out.below' (balloc0 (hB4))) HF.out).mono ?_
  unfold FwdPost
  rw [HQ.out]
  simp only
  rintro e w5 ⟨v5, rfl, hv5, hb5⟩
  have hB5 : Below w.heap.size w w5 := btrans0 (balloc0 (hB4)) hb5
  have hK2_5 : Below w2.heap.size w2 w5 := btrans0 (balloc0 (hK2_4)) hb5
  have hK3_5 : Below w3.heap.size w3 w5 := btrans0 (balloc0 (hK3_4)) hb5
  have hK4_5 : Below w4.heap.size w4 w5 := btrans0 (balloc0 (Below.refl _ _)) hb5
  have y5 := hb5.size
  (try simp at y5)
  have zb5 : w.heap.size < w5.heap.size := by omega
  have Ab : w5.heap[w.heap.size]? = some (.cells (bunC b (.slice ua b.blocks.length uc)).toArray 28 (0, 0)) := (hb5.block _ (by first | exact zb4 | (simp; done) | (simp; omega) | omega)).trans (by repeat (first | exact HAb.out | exact heap_new | exact heap_new' (by first | rfl | (simp; done)) | refine (Below.heap_alloc _ _ _ (by first | omega | (simp; done) | (simp; omega))).trans ?_))
  clear cab HAb
  have cab := fun o => cellB Ab o
  have HAb := Lib.hid Ab
  simp only [bunC] at cab
  clear Ab
  have zP05 : w2.heap.size < w5.heap.size := by omega
  have AP0 : w5.heap[w2.heap.size]? = some (.cells (bunC P (.slice va2 P.blocks.length vc2)).toArray 28 (0, 0)) := (hb5.block _ (by first | exact zP04 | (simp; done) | (simp; omega) | omega)).trans (by repeat (first | exact HAP0.out | exact heap_new | exact heap_new' (by first | rfl | (simp; done)) | refine (Below.heap_alloc _ _ _ (by first | omega | (simp; done) | (simp; omega))).trans ?_))
  clear caP0 HAP0
  have caP0 := fun o => cellB AP0 o
  have HAP0 := Lib.hid AP0
  simp only [bunC] at caP0
  clear AP0
  have zP15 : w3.heap.size < w5.heap.size := by omega
  have AP1 : w5.heap[w3.heap.size]? = some (.cells (bunC P (.slice va3 P.blocks.length vc3)).toArray 28 (0, 0)) := (hb5.block _ (by first | exact zP14 | (simp; done) | (simp; omega) | omega)).trans (by repeat (first | exact HAP1.out | exact heap_new | exact heap_new' (by first | rfl | (simp; done)) | refine (Below.heap_alloc _ _ _ (by first | omega | (simp; done) | (simp; omega))).trans ?_))
  clear caP1 HAP1
  have caP1 := fun o => cellB AP1 o
  have HAP1 := Lib.hid AP1
  simp only [bunC] at caP1
  clear AP1
  have zQ05 : w4.heap.size < w5.heap.size := by omega
  have AQ0 : w5.heap[w4.heap.size]? = some (.cells (bunC Q (.slice va4 Q.blocks.length vc4)).toArray 28 (0, 0)) := (hb5.block _ (by first | exact zQ04 | (simp; done) | (simp; omega) | omega)).trans (by repeat (first | exact HAQ0.out | exact heap_new | exact heap_new' (by first | rfl | (simp; done)) | refine (Below.heap_alloc _ _ _ (by first | omega | (simp; done) | (simp; omega))).trans ?_))
  have caQ0 := fun o => cellB AQ0 o
  have HAQ0 := Lib.hid AQ0
  simp only [bunC] at caQ0
  clear AQ0
  obtain ⟨va5, vc5, rfl, _⟩ := id hv5
  have HV5 := Lib.hid hv5
  clear hv5
  clear hb5
  go_wp2_with fail
  refine (visit_any b _ n _ (HR.out.below' (balloc0 (hB5))) HF.out).mono ?_
  unfold BunPost
  rw [HVI.out]
  simp only
  rintro e w6 ⟨v6, rfl, hv6, hrf, hb6⟩
  have hB6 : Below w.heap.size w w6 := btrans0 (balloc0 (hB5)) hb6
  have hK2_6 : Below w2.heap.size w2 w6 := btrans0 (balloc0 (hK2_5)) hb6
  have hK3_6 : Below w3.heap.size w3 w6 := btrans0 (balloc0 (hK3_5)) hb6
  have hK4_6 : Below w4.heap.size w4 w6 := btrans0 (balloc0 (hK4_5)) hb6
  have hK5_6 : Below w5.heap.size w5 w6 := btrans0 (balloc0 (Below.refl _ _)) hb6
  have y6 := hb6.size
  (try simp at y6)
  have zb6 : w.heap.size < w6.heap.size := by omega
  have Ab : w6.heap[w.heap.size]? = some (.cells (bunC b (.slice ua b.blocks.length uc)).toArray 28 (0, 0)) := (hb6.block _ (by first | exact zb5 | (simp; done) | (simp; omega) | omega)).trans (by repeat (first | exact HAb.out | exact heap_new | exact heap_new' (by first | rfl | (simp; done)) | refine (Below.heap_alloc _ _ _ (by first | omega | (simp; done) | (simp; omega))).trans ?_))
  clear cab HAb
  have cab := fun o => cellB Ab o
  have HAb := Lib.hid Ab
  simp only [bunC] at cab
  clear Ab
  have zP06 : w2.heap.size < w6.heap.size := by omega
  have AP0 : w6.heap[w2.heap.size]? = some (.cells (bunC P (.slice va2 P.blocks.length vc2)).toArray 28 (0, 0)) := (hb6.block _ (by first | exact zP05 | (simp; done) | (simp; omega) | omega)).trans (by repeat (first | exact HAP0.out | exact heap_new | exact heap_new' (by first | rfl | (simp; done)) | refine (Below.heap_alloc _ _ _ (by first | omega | (simp; done) | (simp; omega))).trans ?_))
  clear caP0 HAP0
  have caP0 := fun o => cellB AP0 o
  have HAP0 := Lib.hid AP0
  simp only [bunC] at caP0
  clear AP0
  have zP16 : w3.heap.size < w6.heap.size := by omega
  have AP1 : w6.heap[w3.heap.size]? = some (.cells (bunC P (.slice va3 P.blocks.length vc3)).toArray 28 (0, 0)) := (hb6.block _ (by first | exact zP15 | (simp; done) | (simp; omega) | omega)).trans (by repeat (first | exact HAP1.out | exact heap_new | exact heap_new' (by first | rfl | (simp; done)) | refine (Below.heap_alloc _ _ _ (by first | omega | (simp; done) | (simp; omega))).trans ?_))
  clear caP1 HAP1
  have caP1 := fun o => cellB AP1 o
  have HAP1 := Lib.hid AP1
  simp only [bunC] at caP1
  clear AP1
  have zQ06 : w4.heap.size < w6.heap.size := by omega
  have AQ0 : w6.heap[w4.heap.size]? = some (.cells (bunC Q (.slice va4 Q.blocks.length vc4)).toArray 28 (0, 0)) := (hb6.block _ (by first | exact zQ05 | (simp; done) | (simp; omega) | omega)).trans (by repeat (first | exact HAQ0.out | exact heap_new | exact heap_new' (by first | rfl | (simp; done)) | refine (Below.heap_alloc _ _ _ (by first | omega | (simp; done) | (simp; omega))).trans ?_))
  clear caQ0 HAQ0
  have caQ0 := fun o => cellB AQ0 o
  have HAQ0 := Lib.hid AQ0
  simp only [bunC] at caQ0
  clear AQ0
  have zQ16 : w5.heap.size < w6.heap.size := by omega
  have AQ1 : w6.heap[w5.heap.size]? = some (.cells (bunC Q (.slice va5 Q.blocks.length vc5)).toArray 28 (0, 0)) := (hb6.block _ (by first | exact zQ15 | (simp; done) | (simp; omega) | omega)).trans (by repeat (first | exact HAQ1.out | exact heap_new | exact heap_new' (by first | rfl | (simp; done)) | refine (Below.heap_alloc _ _ _ (by first | omega | (simp; done) | (simp; omega))).trans ?_))
  have caQ1 := fun o => cellB AQ1 o
  have HAQ1 := Lib.hid AQ1
  simp only [bunC] at caQ1
  clear AQ1
  obtain ⟨va6, vc6, rfl, _⟩ := id hv6
  have HV6 := Lib.hid hv6
  clear hv6 hrf
  clear hb6
  go_wp2_with fail
  refine (rvisit_any b _ n _ (HR.out.below' (balloc0 (hB6))) HF.out).mono ?_
  unfold FwdPost
  rw [HVI.out]
  simp only
  rintro e w7 ⟨v7, rfl, hv7, hb7⟩
  have hB7 : Below w.heap.size w w7 := btrans0 (balloc0 (hB6)) hb7
  have hK2_7 : Below w2.heap.size w2 w7 := btrans0 (balloc0 (hK2_6)) hb7
  have hK3_7 : Below w3.heap.size w3 w7 := btrans0 (balloc0 (hK3_6)) hb7
  have hK4_7 : Below w4.heap.size w4 w7 := btrans0 (balloc0 (hK4_6)) hb7
  have hK5_7 : Below w5.heap.size w5 w7 := btrans0 (balloc0 (hK5_6)) hb7
  have hK6_7 : Below w6.heap.size w6 w7 := btrans0 (balloc0 (Below.refl _ _)) hb7
  have y7 := hb7.size
  (try simp at y7)
  have zb7 : w.heap.size < w7.heap.size := by omega
  have Ab : w7.heap[w.heap.size]? = some (.cells (bunC b (.slice ua b.blocks.length uc)).toArray 28 (0, 0)) := (hb7.block _ (by first | exact zb6 | (simp; done) | (simp; omega) | omega)).trans (by repeat (first | exact HAb.out | exact heap_new | exact heap_new' (by first | rfl | (simp; done)) | refine (Below.heap_alloc _ _ _ (by first | omega | (simp; done) | (simp; omega))).trans ?_))
  clear cab HAb
  have cab := fun o => cellB Ab o
  have HAb := Lib.hid Ab
  simp only [bunC] at cab
  clear Ab
  have zP07 : w2.heap.size < w7.heap.size := by omega
  have AP0 : w7.heap[w2.heap.size]? = some (.cells (bunC P (.slice va2 P.blocks.length vc2)).toArray 28 (0, 0)) := (hb7.block _ (by first | exact zP06 | (simp; done) | (simp; omega) | omega)).trans (by repeat (first | exact HAP0.out | exact heap_new | exact heap_new' (by first | rfl | (simp; done)) | refine (Below.heap_alloc _ _ _ (by first | omega | (simp; done) | (simp; omega))).trans ?_))
  clear caP0 HAP0
  have caP0 := fun o => cellB AP0 o
  have HAP0 := Lib.hid AP0
  simp only [bunC] at caP0
  clear AP0
  have zP17 : w3.heap.size < w7.heap.size := by omega
  have AP1 : w7.heap[w3.heap.size]? = some (.cells (bunC P (.slice va3 P.blocks.length vc3)).toArray 28 (0, 0)) := (hb7.block _ (by first | exact zP16 | (simp; done) | (simp; omega) | omega)).trans (by repeat (first | exact HAP1.out | exact heap_new | exact heap_new' (by first | rfl | (simp; done)) | refine (Below.heap_alloc _ _ _ (by first | omega | (simp; done) | (simp; omega))).trans ?_))
  clear caP1 HAP1
  have caP1 := fun o => cellB AP1 o
  have HAP1 := Lib.hid AP1
  simp only [bunC] at caP1
  clear AP1
  have zQ07 : w4.heap.size < w7.heap.size := by omega
  have AQ0 : w7.heap[w4.heap.size]? = some (.cells (bunC Q (.slice va4 Q.blocks.length vc4)).toArray 28 (0, 0)) := (hb7.block _ (by first | exact zQ06 | (simp; done) | (simp; omega) | omega)).trans (by repeat (first | exact HAQ0.out | exact heap_new | exact heap_new' (by first | rfl | (simp; done)) | refine (Below.heap_alloc _ _ _ (by first | omega | (simp; done) | (simp; omega))).trans ?_))
  clear caQ0 HAQ0
  have caQ0 := fun o => cellB AQ0 o
  have HAQ0 := Lib.hid AQ0
  simp only [bunC] at caQ0
  clear AQ0
  have zQ17 : w5.heap.size < w7.heap.size := by omega
  have AQ1 : w7.heap[w5.heap.size]? = some (.cells (bunC Q (.slice va5 Q.blocks.length vc5)).toArray 28 (0, 0)) := (hb7.block _ (by first | exact zQ16 | (simp; done) | (simp; omega) | omega)).trans (by repeat (first | exact HAQ1.out | exact heap_new | exact heap_new' (by first | rfl | (simp; done)) | refine (Below.heap_alloc _ _ _ (by first | omega | (simp; done) | (simp; omega))).trans ?_))
  clear caQ1 HAQ1
  have caQ1 := fun o => cellB AQ1 o
  have HAQ1 := Lib.hid AQ1
  simp only [bunC] at caQ1
  clear AQ1
  have zV07 : w6.heap.size < w7.heap.size := by omega
  have AV0 : w7.heap[w6.heap.size]? = some (.cells (bunC V (.slice va6 V.blocks.length vc6)).toArray 28 (0, 0)) := (hb7.block _ (by first | exact zV06 | (simp; done) | (simp; omega) | omega)).trans (by repeat (first | exact HAV0.out | exact heap_new | exact heap_new' (by first | rfl | (simp; done)) | refine (Below.heap_alloc _ _ _ (by first | omega | (simp; done) | (simp; omega))).trans ?_))
  have caV0 := fun o => cellB AV0 o
  have HAV0 := Lib.hid AV0
  simp only [bunC] at caV0
  clear AV0
  obtain ⟨va7, vc7, rfl, _⟩ := id hv7
  have HV7 := Lib.hid hv7
  clear hv7
  clear hb7
  go_wp2_with fail
  refine (forward_any b _ n x _ (HR.out.below' (balloc0 (hB7))) HF.out).mono ?_
  unfold FwdPost
  rw [HS.out]
  simp only
  rintro e w8 ⟨v8, rfl, hv8, hb8⟩
  have hB8 : Below w.heap.size w w8 := btrans0 (balloc0 (hB7)) hb8
  have hK2_8 : Below w2.heap.size w2 w8 := btrans0 (balloc0 (hK2_7)) hb8
  have hK3_8 : Below w3.heap.size w3 w8 := btrans0 (balloc0 (hK3_7)) hb8
  have hK4_8 : Below w4.heap.size w4 w8 := btrans0 (balloc0 (hK4_7)) hb8
  have hK5_8 : Below w5.heap.size w5 w8 := btrans0 (balloc0 (hK5_7)) hb8
  have hK6_8 : Below w6.heap.size w6 w8 := btrans0 (balloc0 (hK6_7)) hb8
  have hK7_8 : Below w7.heap.size w7 w8 := btrans0 (balloc0 (Below.refl _ _)) hb8
  have y8 := hb8.size
  (try simp at y8)
  have zb8 : w.heap.size < w8.heap.size := by omega
  have Ab : w8.heap[w.heap.size]? = some (.cells (bunC b (.slice ua b.blocks.length uc)).toArray 28 (0, 0)) := (hb8.block _ (by first | exact zb7 | (simp; done) | (simp; omega) | omega)).trans (by repeat (first | exact HAb.out | exact heap_new | exact heap_new' (by first | rfl | (simp; done)) | refine (Below.heap_alloc _ _ _ (by first | omega | (simp; done) | (simp; omega))).trans ?_))
  clear cab HAb
  have cab := fun o => cellB Ab o
  have HAb := Lib.hid Ab
  simp only [bunC] at cab
  clear Ab
  have zP08 : w2.heap.size < w8.heap.size := by omega
  have AP0 : w8.heap[w2.heap.size]? = some (.cells (bunC P (.slice va2 P.blocks.length vc2)).toArray 28 (0, 0)) := (hb8.block _ (by first | exact zP07 | (simp; done) | (simp; omega) | omega)).trans (by repeat (first | exact HAP0.out | exact heap_new | exact heap_new' (by first | rfl | (simp; done)) | refine (Below.heap_alloc _ _ _ (by first | omega | (simp; done) | (simp; omega))).trans ?_))
  clear caP0 HAP0
  have caP0 := fun o => cellB AP0 o
  have HAP0 := Lib.hid AP0
  simp only [bunC] at caP0
  clear AP0
  have zP18 : w3.heap.size < w8.heap.size := by omega
  have AP1 : w8.heap[w3.heap.size]? = some (.cells (bunC P (.slice va3 P.blocks.length vc3)).toArray 28 (0, 0)) := (hb8.block _ (by first | exact zP17 | (simp; done) | (simp; omega) | omega)).trans (by repeat (first | exact HAP1.out | exact heap_new | exact heap_new' (by first | rfl | (simp; done)) | refine (Below.heap_alloc _ _ _ (by first | omega | (simp; done) | (simp; omega))).trans ?_))
  clear caP1 HAP1
  have caP1 := fun o => cellB AP1 o
  have HAP1 := Lib.hid AP1
  simp only [bunC] at caP1
  clear AP1
  have zQ08 : w4.heap.size < w8.heap.size := by omega
  have AQ0 : w8.heap[w4.heap.size]? = some (.cells (bunC Q (.slice va4 Q.blocks.length vc4)).toArray 28 (0, 0)) := (hb8.block _ (by first | exact zQ07 | (simp; done) | (simp; omega) | omega)).trans (by repeat (first | exact HAQ0.out | exact heap_new | exact heap_new' (by first | rfl | (simp; done)) | refine (Below.heap_alloc _ _ _ (by first | omega | (simp; done) | (simp; omega))).trans ?_))
  clear caQ0 HAQ0
  have caQ0 := fun o => cellB AQ0 o
  have HAQ0 := Lib.hid AQ0
  simp only [bunC] at caQ0
  clear AQ0
  have zQ18 : w5.heap.size < w8.heap.size := by omega
  have AQ1 : w8.heap[w5.heap.size]? = some (.cells (bunC Q (.slice va5 Q.blocks.length vc5)).toArray 28 (0, 0)) := (hb8.block _ (by first | exact zQ17 | (simp; done) | (simp; omega) | omega)).trans (by repeat (first | exact HAQ1.out | exact heap_new | exact heap_new' (by first | rfl | (simp; done)) | refine (Below.heap_alloc _ _ _ (by first | omega | (simp; done) | (simp; omega))).trans ?_))
  clear caQ1 HAQ1
  have caQ1 := fun o => cellB AQ1 o
  have HAQ1 := Lib.hid AQ1
  simp only [bunC] at caQ1
  clear AQ1
  have zV08 : w6.heap.size < w8.heap.size := by omega
  have AV0 : w8.heap[w6.heap.size]? = some (.cells (bunC V (.slice va6 V.blocks.length vc6)).toArray 28 (0, 0)) := (hb8.block _ (by first | exact zV07 | (simp; done) | (simp; omega) | omega)).trans (by repeat (first | exact HAV0.out | exact heap_new | exact heap_new' (by first | rfl | (simp; done)) | refine (Below.heap_alloc _ _ _ (by first | omega | (simp; done) | (simp; omega))).trans ?_))
  clear caV0 HAV0
  have caV0 := fun o => cellB AV0 o
  have HAV0 := Lib.hid AV0
  simp only [bunC] at caV0
  clear AV0
  have zV18 : w7.heap.size < w8.heap.size := by omega
  have AV1 : w8.heap[w7.heap.size]? = some (.cells (bunC V (.slice va7 V.blocks.length vc7)).toArray 28 (0, 0)) := (hb8.block _ (by first | exact zV17 | (simp; done) | (simp; omega) | omega)).trans (by repeat (first | exact HAV1.out | exact heap_new | exact heap_new' (by first | rfl | (simp; done)) | refine (Below.heap_alloc _ _ _ (by first | omega | (simp; done) | (simp; omega))).trans ?_))
  have caV1 := fun o => cellB AV1 o
  have HAV1 := Lib.hid AV1
  simp only [bunC] at caV1
  clear AV1
  obtain ⟨va8, vc8, rfl, _⟩ := id hv8
  have HV8 := Lib.hid hv8
  clear hv8
  clear hb8
  go_wp2_with fail
  refine (rforward_any b _ n x _ (HR.out.below' (balloc0 (hB8))) HF.out).mono ?_
  unfold FwdPost
  rw [HS.out]
  simp only
  rintro e w9 ⟨v9, rfl, hv9, hb9⟩
  have hB9 : Below w.heap.size w w9 := btrans0 (balloc0 (hB8)) hb9
  have hK2_9 : Below w2.heap.size w2 w9 := btrans0 (balloc0 (hK2_8)) hb9
  have hK3_9 : Below w3.heap.size w3 w9 := btrans0 (balloc0 (hK3_8)) hb9
  have hK4_9 : Below w4.heap.size w4 w9 := btrans0 (balloc0 (hK4_8)) hb9
  have hK5_9 : Below w5.heap.size w5 w9 := btrans0 (balloc0 (hK5_8)) hb9
  have hK6_9 : Below w6.heap.size w6 w9 := btrans0 (balloc0 (hK6_8)) hb9
  have hK7_9 : Below w7.heap.size w7 w9 := btrans0 (balloc0 (hK7_8)) hb9
  have hK8_9 : Below w8.heap.size w8 w9 := btrans0 (balloc0 (Below.refl _ _)) hb9
  have y9 := hb9.size
  (try simp at y9)
  have zb9 : w.heap.size < w9.heap.size := by omega
  have Ab : w9.heap[w.heap.size]? = some (.cells (bunC b (.slice ua b.blocks.length uc)).toArray 28 (0, 0)) := (hb9.block _ (by first | exact zb8 | (simp; done) | (simp; omega) | omega)).trans (by repeat (first | exact HAb.out | exact heap_new | exact heap_new' (by first | rfl | (simp; done)) | refine (Below.heap_alloc _ _ _ (by first | omega | (simp; done) | (simp; omega))).trans ?_))
  clear cab HAb
  have cab := fun o => cellB Ab o
  have HAb := Lib.hid Ab
  simp only [bunC] at cab
  clear Ab
  have zP09 : w2.heap.size < w9.heap.size := by omega
  have AP0 : w9.heap[w2.heap.size]? = some (.cells (bunC P (.slice va2 P.blocks.length vc2)).toArray 28 (0, 0)) := (hb9.block _ (by first | exact zP08 | (simp; done) | (simp; omega) | omega)).trans (by repeat (first | exact HAP0.out | exact heap_new | exact heap_new' (by first | rfl | (simp; done)) | refine (Below.heap_alloc _ _ _ (by first | omega | (simp; done) | (simp; omega))).trans ?_))
  clear caP0 HAP0
  have caP0 := fun o => cellB AP0 o
  have HAP0 := Lib.hid AP0
  simp only [bunC] at caP0
  clear AP0
  have zP19 : w3.heap.size < w9.heap.size := by omega
  have AP1 : w9.heap[w3.heap.size]? = some (.cells (bunC P (.slice va3 P.blocks.length vc3)).toArray 28 (0, 0)) := (hb9.block _ (by first | exact zP18 | (simp; done) | (simp; omega) | omega)).trans (by repeat (first | exact HAP1.out | exact heap_new | exact heap_new' (by first | rfl | (simp; done)) | refine (Below.heap_alloc _ _ _ (by first | omega | (simp; done) | (simp; omega))).trans ?_))
  clear caP1 HAP1
  have caP1 := fun o => cellB AP1 o
  have HAP1 := Lib.hid AP1
  simp only [bunC] at caP1
  clear AP1
  have zQ09 : w4.heap.size < w9.heap.size := by omega
  have AQ0 : w9.heap[w4.heap.size]? = some (.cells (bunC Q (.slice va4 Q.blocks.length vc4)).toArray 28 (0, 0)) := (hb9.block _ (by first | exact zQ08 | (simp; done) | (simp; omega) | omega)).trans (by repeat (first | exact HAQ0.out | exact heap_new | exact heap_new' (by first | rfl | (simp; done)) | refine (Below.heap_alloc _ _ _ (by first | omega | (simp; done) | (simp; omega))).trans ?_))
  clear caQ0 HAQ0
  have caQ0 := fun o => cellB AQ0 o
  have HAQ0 := Lib.hid AQ0
  simp only [bunC] at caQ0
  clear AQ0
  have zQ19 : w5.heap.size < w9.heap.size := by omega
  have AQ1 : w9.heap[w5.heap.size]? = some (.cells (bunC Q (.slice va5 Q.blocks.length vc5)).toArray 28 (0, 0)) := (hb9.block _ (by first | exact zQ18 | (simp; done) | (simp; omega) | omega)).trans (by repeat (first | exact HAQ1.out | exact heap_new | exact heap_new' (by first | rfl | (simp; done)) | refine (Below.heap_alloc _ _ _ (by first | omega | (simp; done) | (simp; omega))).trans ?_))
  clear caQ1 HAQ1
  have caQ1 := fun o => cellB AQ1 o
  have HAQ1 := Lib.hid AQ1
  simp only [bunC] at caQ1
  clear AQ1
  have zV09 : w6.heap.size < w9.heap.size := by omega
  have AV0 : w9.heap[w6.heap.size]? = some (.cells (bunC V (.slice va6 V.blocks.length vc6)).toArray 28 (0, 0)) := (hb9.block _ (by first | exact zV08 | (simp; done) | (simp; omega) | omega)).trans (by repeat (first | exact HAV0.out | exact heap_new | exact heap_new' (by first | rfl | (simp; done)) | refine (Below.heap_alloc _ _ _ (by first | omega | (simp; done) | (simp; omega))).trans ?_))
  clear caV0 HAV0
  have caV0 := fun o => cellB AV0 o
  have HAV0 := Lib.hid AV0
  simp only [bunC] at caV0
  clear AV0
  have zV19 : w7.heap.size < w9.heap.size := by omega
  have AV1 : w9.heap[w7.heap.size]? = some (.cells (bunC V (.slice va7 V.blocks.length vc7)).toArray 28 (0, 0)) := (hb9.block _ (by first | exact zV18 | (simp; done) | (simp; omega) | omega)).trans (by repeat (first | exact HAV1.out | exact heap_new | exact heap_new' (by first | rfl | (simp; done)) | refine (Below.heap_alloc _ _ _ (by first | omega | (simp; done) | (simp; omega))).trans ?_))
  clear caV1 HAV1
  have caV1 := fun o => cellB AV1 o
  have HAV1 := Lib.hid AV1
  simp only [bunC] at caV1
  clear AV1
  have zS09 : w8.heap.size < w9.heap.size := by omega
  have AS0 : w9.heap[w8.heap.size]? = some (.cells (bunC S (.slice va8 S.blocks.length vc8)).toArray 28 (0, 0)) := (hb9.block _ (by first | exact zS08 | (simp; done) | (simp; omega) | omega)).trans (by repeat (first | exact HAS0.out | exact heap_new | exact heap_new' (by first | rfl | (simp; done)) | refine (Below.heap_alloc _ _ _ (by first | omega | (simp; done) | (simp; omega))).trans ?_))
  have caS0 := fun o => cellB AS0 o
  have HAS0 := Lib.hid AS0
  simp only [bunC] at caS0
  clear AS0
  obtain ⟨va9, vc9, rfl, _⟩ := id hv9
  have HV9 := Lib.hid hv9
  clear hv9
  clear hb9
  go_wp2_with fail
  refine (lsame_any P _ _ _ (HV2.out.below' (balloc0 (hK2_9))) (HV3.out.below' (balloc0 (hK3_9)))).mono ?_
  rintro e w10 ⟨rfl, hb10⟩
  have hB10 : Below w.heap.size w w10 := btrans0 (balloc0 (hB9)) hb10
  have hK2_10 : Below w2.heap.size w2 w10 := btrans0 (balloc0 (hK2_9)) hb10
  have hK3_10 : Below w3.heap.size w3 w10 := btrans0 (balloc0 (hK3_9)) hb10
  have hK4_10 : Below w4.heap.size w4 w10 := btrans0 (balloc0 (hK4_9)) hb10
  have hK5_10 : Below w5.heap.size w5 w10 := btrans0 (balloc0 (hK5_9)) hb10
  have hK6_10 : Below w6.heap.size w6 w10 := btrans0 (balloc0 (hK6_9)) hb10
  have hK7_10 : Below w7.heap.size w7 w10 := btrans0 (balloc0 (hK7_9)) hb10
  have hK8_10 : Below w8.heap.size w8 w10 := btrans0 (balloc0 (hK8_9)) hb10
  have hK9_10 : Below w9.heap.size w9 w10 := btrans0 (balloc0 (Below.refl _ _)) hb10
  have y10 := hb10.size
  (try simp at y10)
  have zb10 : w.heap.size < w10.heap.size := by omega
  have Ab : w10.heap[w.heap.size]? = some (.cells (bunC b (.slice ua b.blocks.length uc)).toArray 28 (0, 0)) := (hb10.block _ (by first | exact zb9 | (simp; done) | (simp; omega) | omega)).trans (by repeat (first | exact HAb.out | exact heap_new | exact heap_new' (by first | rfl | (simp; done)) | refine (Below.heap_alloc _ _ _ (by first | omega | (simp; done) | (simp; omega))).trans ?_))
  clear cab HAb
  have cab := fun o => cellB Ab o
  have HAb := Lib.hid Ab
  simp only [bunC] at cab
  clear Ab
  have zP010 : w2.heap.size < w10.heap.size := by omega
  have AP0 : w10.heap[w2.heap.size]? = some (.cells (bunC P (.slice va2 P.blocks.length vc2)).toArray 28 (0, 0)) := (hb10.block _ (by first | exact zP09 | (simp; done) | (simp; omega) | omega)).trans (by repeat (first | exact HAP0.out | exact heap_new | exact heap_new' (by first | rfl | (simp; done)) | refine (Below.heap_alloc _ _ _ (by first | omega | (simp; done) | (simp; omega))).trans ?_))
  clear caP0 HAP0
  have caP0 := fun o => cellB AP0 o
  have HAP0 := Lib.hid AP0
  simp only [bunC] at caP0
  clear AP0
  have zP110 : w3.heap.size < w10.heap.size := by omega
  have AP1 : w10.heap[w3.heap.size]? = some (.cells (bunC P (.slice va3 P.blocks.length vc3)).toArray 28 (0, 0)) := (hb10.block _ (by first | exact zP19 | (simp; done) | (simp; omega) | omega)).trans (by repeat (first | exact HAP1.out | exact heap_new | exact heap_new' (by first | rfl | (simp; done)) | refine (Below.heap_alloc _ _ _ (by first | omega | (simp; done) | (simp; omega))).trans ?_))
  clear caP1 HAP1
  have caP1 := fun o => cellB AP1 o
  have HAP1 := Lib.hid AP1
  simp only [bunC] at caP1
  clear AP1
  have zQ010 : w4.heap.size < w10.heap.size := by omega
  have AQ0 : w10.heap[w4.heap.size]? = some (.cells (bunC Q (.slice va4 Q.blocks.length vc4)).toArray 28 (0, 0)) := (hb10.block _ (by first | exact zQ09 | (simp; done) | (simp; omega) | omega)).trans (by repeat (first | exact HAQ0.out | exact heap_new | exact heap_new' (by first | rfl | (simp; done)) | refine (Below.heap_alloc _ _ _ (by first | omega | (simp; done) | (simp; omega))).trans ?_))
  clear caQ0 HAQ0
  have caQ0 := fun o => cellB AQ0 o
  have HAQ0 := Lib.hid AQ0
  simp only [bunC] at caQ0
  clear AQ0
  have zQ110 : w5.heap.size < w10.heap.size := by omega
  have AQ1 : w10.heap[w5.heap.size]? = some (.cells (bunC Q (.slice va5 Q.blocks.length vc5)).toArray 28 (0, 0)) := (hb10.block _ (by first | exact zQ19 | (simp; done) | (simp; omega) | omega)).trans (by repeat (first | exact HAQ1.out | exact heap_new | exact heap_new' (by first | rfl | (simp; done)) | refine (Below.heap_alloc _ _ _ (by first | omega | (simp; done) | (simp; omega))).trans ?_))
  clear caQ1 HAQ1
  have caQ1 := fun o => cellB AQ1 o
  have HAQ1 := Lib.hid AQ1
  simp only [bunC] at caQ1
  clear AQ1
  have zV010 : w6.heap.size < w10.heap.size := by omega
  have AV0 : w10.heap[w6.heap.size]? = some (.cells (bunC V (.slice va6 V.blocks.length vc6)).toArray 28 (0, 0)) := (hb10.block _ (by first | exact zV09 | (simp; done) | (simp; omega) | omega)).trans (by repeat (first | exact HAV0.out | exact heap_new | exact heap_new' (by first | rfl | (simp; done)) | refine (Below.heap_alloc _ _ _ (by first | omega | (simp; done) | (simp; omega))).trans ?_))
  clear caV0 HAV0
  have caV0 := fun o => cellB AV0 o
  have HAV0 := Lib.hid AV0
  simp only [bunC] at caV0
  clear AV0
  have zV110 : w7.heap.size < w10.heap.size := by omega
  have AV1 : w10.heap[w7.heap.size]? = some (.cells (bunC V (.slice va7 V.blocks.length vc7)).toArray 28 (0, 0)) := (hb10.block _ (by first | exact zV19 | (simp; done) | (simp; omega) | omega)).trans (by repeat (first | exact HAV1.out | exact heap_new | exact heap_new' (by first | rfl | (simp; done)) | refine (Below.heap_alloc _ _ _ (by first | omega | (simp; done) | (simp; omega))).trans ?_))
  clear caV1 HAV1
  have caV1 := fun o => cellB AV1 o
  have HAV1 := Lib.hid AV1
  simp only [bunC] at caV1
  clear AV1
  have zS010 : w8.heap.size < w10.heap.size := by omega
  have AS0 : w10.heap[w8.heap.size]? = some (.cells (bunC S (.slice va8 S.blocks.length vc8)).toArray 28 (0, 0)) := (hb10.block _ (by first | exact zS09 | (simp; done) | (simp; omega) | omega)).trans (by repeat (first | exact HAS0.out | exact heap_new | exact heap_new' (by first | rfl | (simp; done)) | refine (Below.heap_alloc _ _ _ (by first | omega | (simp; done) | (simp; omega))).trans ?_))
  clear caS0 HAS0
  have caS0 := fun o => cellB AS0 o
  have HAS0 := Lib.hid AS0
  simp only [bunC] at caS0
  clear AS0
  have zS110 : w9.heap.size < w10.heap.size := by omega
  have AS1 : w10.heap[w9.heap.size]? = some (.cells (bunC S (.slice va9 S.blocks.length vc9)).toArray 28 (0, 0)) := (hb10.block _ (by first | exact zS19 | (simp; done) | (simp; omega) | omega)).trans (by repeat (first | exact HAS1.out | exact heap_new | exact heap_new' (by first | rfl | (simp; done)) | refine (Below.heap_alloc _ _ _ (by first | omega | (simp; done) | (simp; omega))).trans ?_))
  have caS1 := fun o => cellB AS1 o
  have HAS1 := Lib.hid AS1
  simp only [bunC] at caS1
  clear AS1
  clear hb10
  go_wp2_with fail
  refine (lsame_any Q _ _ _ (HV4.out.below' (hK4_10)) (HV5.out.below' (hK5_10))).mono ?_
  rintro e w11 ⟨rfl, hb11⟩
  have hB11 : Below w.heap.size w w11 := btrans0 (hB10) hb11
  have hK2_11 : Below w2.heap.size w2 w11 := btrans0 (hK2_10) hb11
  have hK3_11 : Below w3.heap.size w3 w11 := btrans0 (hK3_10) hb11
  have hK4_11 : Below w4.heap.size w4 w11 := btrans0 (hK4_10) hb11
  have hK5_11 : Below w5.heap.size w5 w11 := btrans0 (hK5_10) hb11
  have hK6_11 : Below w6.heap.size w6 w11 := btrans0 (hK6_10) hb11
  have hK7_11 : Below w7.heap.size w7 w11 := btrans0 (hK7_10) hb11
  have hK8_11 : Below w8.heap.size w8 w11 := btrans0 (hK8_10) hb11
  have hK9_11 : Below w9.heap.size w9 w11 := btrans0 (hK9_10) hb11
  have y11 := hb11.size
  (try simp at y11)
  have zb11 : w.heap.size < w11.heap.size := by omega
  have Ab : w11.heap[w.heap.size]? = some (.cells (bunC b (.slice ua b.blocks.length uc)).toArray 28 (0, 0)) := (hb11.block _ (by first | exact zb10 | (simp; done) | (simp; omega) | omega)).trans (by repeat (first | exact HAb.out | exact heap_new | exact heap_new' (by first | rfl | (simp; done)) | refine (Below.heap_alloc _ _ _ (by first | omega | (simp; done) | (simp; omega))).trans ?_))
  clear cab HAb
  have cab := fun o => cellB Ab o
  have HAb := Lib.hid Ab
  simp only [bunC] at cab
  clear Ab
  have zP011 : w2.heap.size < w11.heap.size := by omega
  have AP0 : w11.heap[w2.heap.size]? = some (.cells (bunC P (.slice va2 P.blocks.length vc2)).toArray 28 (0, 0)) := (hb11.block _ (by first | exact zP010 | (simp; done) | (simp; omega) | omega)).trans (by repeat (first | exact HAP0.out | exact heap_new | exact heap_new' (by first | rfl | (simp; done)) | refine (Below.heap_alloc _ _ _ (by first | omega | (simp; done) | (simp; omega))).trans ?_))
  clear caP0 HAP0
  have caP0 := fun o => cellB AP0 o
  have HAP0 := Lib.hid AP0
  simp only [bunC] at caP0
  clear AP0
  have zP111 : w3.heap.size < w11.heap.size := by omega
  have AP1 : w11.heap[w3.heap.size]? = some (.cells (bunC P (.slice va3 P.blocks.length vc3)).toArray 28 (0, 0)) := (hb11.block _ (by first | exact zP110 | (simp; done) | (simp; omega) | omega)).trans (by repeat (first | exact HAP1.out | exact heap_new | exact heap_new' (by first | rfl | (simp; done)) | refine (Below.heap_alloc _ _ _ (by first | omega | (simp; done) | (simp; omega))).trans ?_))
  clear caP1 HAP1
  have caP1 := fun o => cellB AP1 o
  have HAP1 := Lib.hid AP1
  simp only [bunC] at caP1
  clear AP1
  have zQ011 : w4.heap.size < w11.heap.size := by omega
  have AQ0 : w11.heap[w4.heap.size]? = some (.cells (bunC Q (.slice va4 Q.blocks.length vc4)).toArray 28 (0, 0)) := (hb11.block _ (by first | exact zQ010 | (simp; done) | (simp; omega) | omega)).trans (by repeat (first | exact HAQ0.out | exact heap_new | exact heap_new' (by first | rfl | (simp; done)) | refine (Below.heap_alloc _ _ _ (by first | omega | (simp; done) | (simp; omega))).trans ?_))
  clear caQ0 HAQ0
  have caQ0 := fun o => cellB AQ0 o
  have HAQ0 := Lib.hid AQ0
  simp only [bunC] at caQ0
  clear AQ0
  have zQ111 : w5.heap.size < w11.heap.size := by omega
  have AQ1 : w11.heap[w5.heap.size]? = some (.cells (bunC Q (.slice va5 Q.blocks.length vc5)).toArray 28 (0, 0)) := (hb11.block _ (by first | exact zQ110 | (simp; done) | (simp; omega) | omega)).trans (by repeat (first | exact HAQ1.out | exact heap_new | exact heap_new' (by first | rfl | (simp; done)) | refine (Below.heap_alloc _ _ _ (by first | omega | (simp; done) | (simp; omega))).trans ?_))
  clear caQ1 HAQ1
  have caQ1 := fun o => cellB AQ1 o
  have HAQ1 := Lib.hid AQ1
  simp only [bunC] at caQ1
  clear AQ1
  have zV011 : w6.heap.size < w11.heap.size := by omega
  have AV0 : w11.heap[w6.heap.size]? = some (.cells (bunC V (.slice va6 V.blocks.length vc6)).toArray 28 (0, 0)) := (hb11.block _ (by first | exact zV010 | (simp; done) | (simp; omega) | omega)).trans (by repeat (first | exact HAV0.out | exact heap_new | exact heap_new' (by first | rfl | (simp; done)) | refine (Below.heap_alloc _ _ _ (by first | omega | (simp; done) | (simp; omega))).trans ?_))
  clear caV0 HAV0
  have caV0 := fun o => cellB AV0 o
  have HAV0 := Lib.hid AV0
  simp only [bunC] at caV0
  clear AV0
  have zV111 : w7.heap.size < w11.heap.size := by omega
  have AV1 : w11.heap[w7.heap.size]? = some (.cells (bunC V (.slice va7 V.blocks.length vc7)).toArray 28 (0, 0)) := (hb11.block _ (by first | exact zV110 | (simp; done) | (simp; omega) | omega)).trans (by repeat (first | exact HAV1.out | exact heap_new | exact heap_new' (by first | rfl | (simp; done)) | refine (Below.heap_alloc _ _ _ (by first | omega | (simp; done) | (simp; omega))).trans ?_))
  clear caV1 HAV1
  have caV1 := fun o => cellB AV1 o
  have HAV1 := Lib.hid AV1
  simp only [bunC] at caV1
  clear AV1
  have zS011 : w8.heap.size < w11.heap.size := by omega
  have AS0 : w11.heap[w8.heap.size]? = some (.cells (bunC S (.slice va8 S.blocks.length vc8)).toArray 28 (0, 0)) := (hb11.block _ (by first | exact zS010 | (simp; done) | (simp; omega) | omega)).trans (by repeat (first | exact HAS0.out | exact heap_new | exact heap_new' (by first | rfl | (simp; done)) | refine (Below.heap_alloc _ _ _ (by first | omega | (simp; done) | (simp; omega))).trans ?_))
  clear caS0 HAS0
  have caS0 := fun o => cellB AS0 o
  have HAS0 := Lib.hid AS0
  simp only [bunC] at caS0
  clear AS0
  have zS111 : w9.heap.size < w11.heap.size := by omega
  have AS1 : w11.heap[w9.heap.size]? = some (.cells (bunC S (.slice va9 S.blocks.length vc9)).toArray 28 (0, 0)) := (hb11.block _ (by first | exact zS110 | (simp; done) | (simp; omega) | omega)).trans (by repeat (first | exact HAS1.out | exact heap_new | exact heap_new' (by first | rfl | (simp; done)) | refine (Below.heap_alloc _ _ _ (by first | omega | (simp; done) | (simp; omega))).trans ?_))
  clear caS1 HAS1
  have caS1 := fun o => cellB AS1 o
  have HAS1 := Lib.hid AS1
  simp only [bunC] at caS1
  clear AS1
  clear hb11
  go_wp2_with fail
  refine (lsame_any V _ _ _ (HV6.out.below' (hK6_11)) (HV7.out.below' (hK7_11))).mono ?_
  rintro e w12 ⟨rfl, hb12⟩
  have hB12 : Below w.heap.size w w12 := btrans0 (hB11) hb12
  have hK2_12 : Below w2.heap.size w2 w12 := btrans0 (hK2_11) hb12
  have hK3_12 : Below w3.heap.size w3 w12 := btrans0 (hK3_11) hb12
  have hK4_12 : Below w4.heap.size w4 w12 := btrans0 (hK4_11) hb12
  have hK5_12 : Below w5.heap.size w5 w12 := btrans0 (hK5_11) hb12
  have hK6_12 : Below w6.heap.size w6 w12 := btrans0 (hK6_11) hb12
  have hK7_12 : Below w7.heap.size w7 w12 := btrans0 (hK7_11) hb12
  have hK8_12 : Below w8.heap.size w8 w12 := btrans0 (hK8_11) hb12
  have hK9_12 : Below w9.heap.size w9 w12 := btrans0 (hK9_11) hb12
  have y12 := hb12.size
  (try simp at y12)
  have zb12 : w.heap.size < w12.heap.size := by omega
  have Ab : w12.heap[w.heap.size]? = some (.cells (bunC b (.slice ua b.blocks.length uc)).toArray 28 (0, 0)) := (hb12.block _ (by first | exact zb11 | (simp; done) | (simp; omega) | omega)).trans (by repeat (first | exact HAb.out | exact heap_new | exact heap_new' (by first | rfl | (simp; done)) | refine (Below.heap_alloc _ _ _ (by first | omega | (simp; done) | (simp; omega))).trans ?_))
  clear cab HAb
  have cab := fun o => cellB Ab o
  have HAb := Lib.hid Ab
  simp only [bunC] at cab
  clear Ab
  have zP012 : w2.heap.size < w12.heap.size := by omega
  have AP0 : w12.heap[w2.heap.size]? = some (.cells (bunC P (.slice va2 P.blocks.length vc2)).toArray 28 (0, 0)) := (hb12.block _ (by first | exact zP011 | (simp; done) | (simp; omega) | omega)).trans (by repeat (first | exact HAP0.out | exact heap_new | exact heap_new' (by first | rfl | (simp; done)) | refine (Below.heap_alloc _ _ _ (by first | omega | (simp; done) | (simp; omega))).trans ?_))
  clear caP0 HAP0
  have caP0 := fun o => cellB AP0 o
  have HAP0 := Lib.hid AP0
  simp only [bunC] at caP0
  clear AP0
  have zP112 : w3.heap.size < w12.heap.size := by omega
  have AP1 : w12.heap[w3.heap.size]? = some (.cells (bunC P (.slice va3 P.blocks.length vc3)).toArray 28 (0, 0)) := (hb12.block _ (by first | exact zP111 | (simp; done) | (simp; omega) | omega)).trans (by repeat (first | exact HAP1.out | exact heap_new | exact heap_new' (by first | rfl | (simp; done)) | refine (Below.heap_alloc _ _ _ (by first | omega | (simp; done) | (simp; omega))).trans ?_))
  clear caP1 HAP1
  have caP1 := fun o => cellB AP1 o
  have HAP1 := Lib.hid AP1
  simp only [bunC] at caP1
  clear AP1
  have zQ012 : w4.heap.size < w12.heap.size := by omega
  have AQ0 : w12.heap[w4.heap.size]? = some (.cells (bunC Q (.slice va4 Q.blocks.length vc4)).toArray 28 (0, 0)) := (hb12.block _ (by first | exact zQ011 | (simp; done) | (simp; omega) | omega)).trans (by repeat (first | exact HAQ0.out | exact heap_new | exact heap_new' (by first | rfl | (simp; done)) | refine (Below.heap_alloc _ _ _ (by first | omega | (simp; done) | (simp; omega))).trans ?_))
  clear caQ0 HAQ0
  have caQ0 := fun o => cellB AQ0 o
  have HAQ0 := Lib.hid AQ0
  simp only [bunC] at caQ0
  clear AQ0
  have zQ112 : w5.heap.size < w12.heap.size := by omega
  have AQ1 : w12.heap[w5.heap.size]? = some (.cells (bunC Q (.slice va5 Q.blocks.length vc5)).toArray 28 (0, 0)) := (hb12.block _ (by first | exact zQ111 | (simp; done) | (simp; omega) | omega)).trans (by repeat (first | exact HAQ1.out | exact heap_new | exact heap_new' (by first | rfl | (simp; done)) | refine (Below.heap_alloc _ _ _ (by first | omega | (simp; done) | (simp; omega))).trans ?_))
  clear caQ1 HAQ1
  have caQ1 := fun o => cellB AQ1 o
  have HAQ1 := Lib.hid AQ1
  simp only [bunC] at caQ1
  clear AQ1
  have zV012 : w6.heap.size < w12.heap.size := by omega
  have AV0 : w12.heap[w6.heap.size]? = some (.cells (bunC V (.slice va6 V.blocks.length vc6)).toArray 28 (0, 0)) := (hb12.block _ (by first | exact zV011 | (simp; done) | (simp; omega) | omega)).trans (by repeat (first | exact HAV0.out | exact heap_new | exact heap_new' (by first | rfl | (simp; done)) | refine (Below.heap_alloc _ _ _ (by first | omega | (simp; done) | (simp; omega))).trans ?_))
  clear caV0 HAV0
  have caV0 := fun o => cellB AV0 o
  have HAV0 := Lib.hid AV0
  simp only [bunC] at caV0
  clear AV0
  have zV112 : w7.heap.size < w12.heap.size := by omega
  have AV1 : w12.heap[w7.heap.size]? = some (.cells (bunC V (.slice va7 V.blocks.length vc7)).toArray 28 (0, 0)) := (hb12.block _ (by first | exact zV111 | (simp; done) | (simp; omega) | omega)).trans (by repeat (first | exact HAV1.out | exact heap_new | exact heap_new' (by first | rfl | (simp; done)) | refine (Below.heap_alloc _ _ _ (by first | omega | (simp; done) | (simp; omega))).trans ?_))
  clear caV1 HAV1
  have caV1 := fun o => cellB AV1 o
  have HAV1 := Lib.hid AV1
  simp only [bunC] at caV1
  clear AV1
  have zS012 : w8.heap.size < w12.heap.size := by omega
  have AS0 : w12.heap[w8.heap.size]? = some (.cells (bunC S (.slice va8 S.blocks.length vc8)).toArray 28 (0, 0)) := (hb12.block _ (by first | exact zS011 | (simp; done) | (simp; omega) | omega)).trans (by repeat (first | exact HAS0.out | exact heap_new | exact heap_new' (by first | rfl | (simp; done)) | refine (Below.heap_alloc _ _ _ (by first | omega | (simp; done) | (simp; omega))).trans ?_))
  clear caS0 HAS0
  have caS0 := fun o => cellB AS0 o
  have HAS0 := Lib.hid AS0
  simp only [bunC] at caS0
  clear AS0
  have zS112 : w9.heap.size < w12.heap.size := by omega
  have AS1 : w12.heap[w9.heap.size]? = some (.cells (bunC S (.slice va9 S.blocks.length vc9)).toArray 28 (0, 0)) := (hb12.block _ (by first | exact zS111 | (simp; done) | (simp; omega) | omega)).trans (by repeat (first | exact HAS1.out | exact heap_new | exact heap_new' (by first | rfl | (simp; done)) | refine (Below.heap_alloc _ _ _ (by first | omega | (simp; done) | (simp; omega))).trans ?_))
  clear caS1 HAS1
  have caS1 := fun o => cellB AS1 o
  have HAS1 := Lib.hid AS1
  simp only [bunC] at caS1
  clear AS1
  clear hb12
  go_wp2_with fail
  refine (lsame_any S _ _ _ (HV8.out.below' (hK8_12)) (HV9.out.below' (hK9_12))).mono ?_
  rintro e w13 ⟨rfl, hb13⟩
  have hB13 : Below w.heap.size w w13 := btrans0 (hB12) hb13
  have hK2_13 : Below w2.heap.size w2 w13 := btrans0 (hK2_12) hb13
  have hK3_13 : Below w3.heap.size w3 w13 := btrans0 (hK3_12) hb13
  have hK4_13 : Below w4.heap.size w4 w13 := btrans0 (hK4_12) hb13
  have hK5_13 : Below w5.heap.size w5 w13 := btrans0 (hK5_12) hb13
  have hK6_13 : Below w6.heap.size w6 w13 := btrans0 (hK6_12) hb13
  have hK7_13 : Below w7.heap.size w7 w13 := btrans0 (hK7_12) hb13
  have hK8_13 : Below w8.heap.size w8 w13 := btrans0 (hK8_12) hb13
  have hK9_13 : Below w9.heap.size w9 w13 := btrans0 (hK9_12) hb13
  have y13 := hb13.size
  (try simp at y13)
  have zb13 : w.heap.size < w13.heap.size := by omega
  have Ab : w13.heap[w.heap.size]? = some (.cells (bunC b (.slice ua b.blocks.length uc)).toArray 28 (0, 0)) := (hb13.block _ (by first | exact zb12 | (simp; done) | (simp; omega) | omega)).trans (by repeat (first | exact HAb.out | exact heap_new | exact heap_new' (by first | rfl | (simp; done)) | refine (Below.heap_alloc _ _ _ (by first | omega | (simp; done) | (simp; omega))).trans ?_))
  clear cab HAb
  have cab := fun o => cellB Ab o
  have HAb := Lib.hid Ab
  simp only [bunC] at cab
  clear Ab
  have zP013 : w2.heap.size < w13.heap.size := by omega
  have AP0 : w13.heap[w2.heap.size]? = some (.cells (bunC P (.slice va2 P.blocks.length vc2)).toArray 28 (0, 0)) := (hb13.block _ (by first | exact zP012 | (simp; done) | (simp; omega) | omega)).trans (by repeat (first | exact HAP0.out | exact heap_new | exact heap_new' (by first | rfl | (simp; done)) | refine (Below.heap_alloc _ _ _ (by first | omega | (simp; done) | (simp; omega))).trans ?_))
  clear caP0 HAP0
  have caP0 := fun o => cellB AP0 o
  have HAP0 := Lib.hid AP0
  simp only [bunC] at caP0
  clear AP0
  have zP113 : w3.heap.size < w13.heap.size := by omega
  have AP1 : w13.heap[w3.heap.size]? = some (.cells (bunC P (.slice va3 P.blocks.length vc3)).toArray 28 (0, 0)) := (hb13.block _ (by first | exact zP112 | (simp; done) | (simp; omega) | omega)).trans (by repeat (first | exact HAP1.out | exact heap_new | exact heap_new' (by first | rfl | (simp; done)) | refine (Below.heap_alloc _ _ _ (by first | omega | (simp; done) | (simp; omega))).trans ?_))
  clear caP1 HAP1
  have caP1 := fun o => cellB AP1 o
  have HAP1 := Lib.hid AP1
  simp only [bunC] at caP1
  clear AP1
  have zQ013 : w4.heap.size < w13.heap.size := by omega
  have AQ0 : w13.heap[w4.heap.size]? = some (.cells (bunC Q (.slice va4 Q.blocks.length vc4)).toArray 28 (0, 0)) := (hb13.block _ (by first | exact zQ012 | (simp; done) | (simp; omega) | omega)).trans (by repeat (first | exact HAQ0.out | exact heap_new | exact heap_new' (by first | rfl | (simp; done)) | refine (Below.heap_alloc _ _ _ (by first | omega | (simp; done) | (simp; omega))).trans ?_))
  clear caQ0 HAQ0
  have caQ0 := fun o => cellB AQ0 o
  have HAQ0 := Lib.hid AQ0
  simp only [bunC] at caQ0
  clear AQ0
  have zQ113 : w5.heap.size < w13.heap.size := by omega
  have AQ1 : w13.heap[w5.heap.size]? = some (.cells (bunC Q (.slice va5 Q.blocks.length vc5)).toArray 28 (0, 0)) := (hb13.block _ (by first | exact zQ112 | (simp; done) | (simp; omega) | omega)).trans (by repeat (first | exact HAQ1.out | exact heap_new | exact heap_new' (by first | rfl | (simp; done)) | refine (Below.heap_alloc _ _ _ (by first | omega | (simp; done) | (simp; omega))).trans ?_))
  clear caQ1 HAQ1
  have caQ1 := fun o => cellB AQ1 o
  have HAQ1 := Lib.hid AQ1
  simp only [bunC] at caQ1
  clear AQ1
  have zV013 : w6.heap.size < w13.heap.size := by omega
  have AV0 : w13.heap[w6.heap.size]? = some (.cells (bunC V (.slice va6 V.blocks.length vc6)).toArray 28 (0, 0)) := (hb13.block _ (by first | exact zV012 | (simp; done) | (simp; omega) | omega)).trans (by repeat (first | exact HAV0.out | exact heap_new | exact heap_new' (by first | rfl | (simp; done)) | refine (Below.heap_alloc _ _ _ (by first | omega | (simp; done) | (simp; omega))).trans ?_))
  clear caV0 HAV0
  have caV0 := fun o => cellB AV0 o
  have HAV0 := Lib.hid AV0
  simp only [bunC] at caV0
  clear AV0
  have zV113 : w7.heap.size < w13.heap.size := by omega
  have AV1 : w13.heap[w7.heap.size]? = some (.cells (bunC V (.slice va7 V.blocks.length vc7)).toArray 28 (0, 0)) := (hb13.block _ (by first | exact zV112 | (simp; done) | (simp; omega) | omega)).trans (by repeat (first | exact HAV1.out | exact heap_new | exact heap_new' (by first | rfl | (simp; done)) | refine (Below.heap_alloc _ _ _ (by first | omega | (simp; done) | (simp; omega))).trans ?_))
  clear caV1 HAV1
  have caV1 := fun o => cellB AV1 o
  have HAV1 := Lib.hid AV1
  simp only [bunC] at caV1
  clear AV1
  have zS013 : w8.heap.size < w13.heap.size := by omega
  have AS0 : w13.heap[w8.heap.size]? = some (.cells (bunC S (.slice va8 S.blocks.length vc8)).toArray 28 (0, 0)) := (hb13.block _ (by first | exact zS012 | (simp; done) | (simp; omega) | omega)).trans (by repeat (first | exact HAS0.out | exact heap_new | exact heap_new' (by first | rfl | (simp; done)) | refine (Below.heap_alloc _ _ _ (by first | omega | (simp; done) | (simp; omega))).trans ?_))
  clear caS0 HAS0
  have caS0 := fun o => cellB AS0 o
  have HAS0 := Lib.hid AS0
  simp only [bunC] at caS0
  clear AS0
  have zS113 : w9.heap.size < w13.heap.size := by omega
  have AS1 : w13.heap[w9.heap.size]? = some (.cells (bunC S (.slice va9 S.blocks.length vc9)).toArray 28 (0, 0)) := (hb13.block _ (by first | exact zS112 | (simp; done) | (simp; omega) | omega)).trans (by repeat (first | exact HAS1.out | exact heap_new | exact heap_new' (by first | rfl | (simp; done)) | refine (Below.heap_alloc _ _ _ (by first | omega | (simp; done) | (simp; omega))).trans ?_))
  clear caS1 HAS1
  have caS1 := fun o => cellB AS1 o
  have HAS1 := Lib.hid AS1
  simp only [bunC] at caS1
  clear AS1
  clear hb13
  go_wp2_with fail
  refine (awake_any _).mono ?_
  rintro e w99 ⟨rfl, hb99⟩
  go_wp2
  go_ret
  exact ⟨rfl, (by repeat' (first | (with_reducible refine bset ?_ ?_) | (with_reducible exact Below.refl _ _) | (with_reducible assumption) | (with_reducible refine bdrewN ?_ _) | (with_reducible refine bdrew ?_) | (with_reducible refine balloc0 ?_) | (with_reducible refine balloc ?_ ?_) | (with_reducible apply btrans0; rotate_left; with_reducible assumption) | (with_reducible apply btrans; rotate_left; with_reducible assumption) | exact Below.refl _ _ | assumption | (apply btrans0; rotate_left; assumption) | (apply btrans; rotate_left; assumption) | (simp; done) | omega | (simp; omega)))⟩

set_option maxRecDepth 100000 in
theorem lifted (os : Os) (started : os.Started) (H : Type) (enc : TypeId × Value → H) :
    ReturnsInHanded {} Try.checked os 4 .any (Rows.extensionChangesSpec.pre6 enc Try.prog Try.f4 Rows.extensionChangesRow.domain false) (Rows.extensionChangesSpec.post enc Try.prog Try.f4 false true false false) := by
  refine returnsInHanded_of_change (C := Try.checked) own started (by kernel_rfl) Try.func4
    (ChangeSpec.witness6 (enc := enc) (C := Try.checked) false ⟨#[], #[.agg #[.int .i64 0, .int .i64 0, .int .i64 0, .int .i64 0, .int .i64 0, .int .i64 0, .int .i64 0, .int .i64 0, .int .i64 0, .int .i64 0, .slice none 0 0, .string (B [])], .int .i64 0, .int .i64 0, .int .i64 0], []⟩ 8 (by kernel_rfl) (by kernel_rfl) (by kernel_rfl) (by kernel_rfl)) ?_
  intro W base args ds gs before hval0 hW hcnd _
  have hval : ∀ (j : Nat) t v, Try.f4.params[j]? = some t → args[j]? = some v → Value.okWide Try.prog W .any base t v := hval0
  have hW' := hW
  obtain ⟨p, q, hA0, hV, rfl, hfz, hnd⟩ := hW
  have hA : DataW.TrodAll enc Try.prog W 0 (fun _ => true) true Try.f4.params.toList args.toList ds p := hA0
  rw [Try.params4] at hA hval
  obtain ⟨v0, vs0, d0, ds0, p0, q0, hargs, rfl, rfl, h0, r0⟩ := trodAll_cons hA
  obtain ⟨v1, vs1, d1, ds1, p1, q1, rfl, rfl, rfl, h1, r1⟩ := trodAll_cons r0
  obtain ⟨v2, vs2, d2, ds2, p2, q2, rfl, rfl, rfl, h2, r2⟩ := trodAll_cons r1
  obtain ⟨v3, vs3, d3, ds3, p3, q3, rfl, rfl, rfl, h3, r3⟩ := trodAll_cons r2
  obtain ⟨rfl, rfl, rfl⟩ := trodAll_nil r3
  obtain rfl : args = #[v0, v1, v2, v3] := by cases args; simp_all
  obtain ⟨x0, u0, rfl, hr0, hf0⟩ := open_bun (hval 0 28 v0 rfl rfl) h0
  obtain ⟨x1, rfl, _, _, wx1⟩ := open_int Try.underlying3 (hval 1 3 v1 rfl rfl) h1
  obtain ⟨x2, rfl, _, _, wx2⟩ := open_int Try.underlying3 (hval 2 3 v2 rfl rfl) h2
  obtain ⟨x3, rfl, _, _, wx3⟩ := open_int Try.underlying3 (hval 3 3 v3 rfl rfl) h3
  refine (walk x0 u0 x1 x2 x3 W hr0 hf0).mono fun e W' ⟨he, hB⟩ => ?_
  subst he
  refine ⟨_, rfl, law_post (by kernel_rfl) (by kernel_rfl) rfl Try.underlying4 rfl ?_ hW' hB⟩
  intro es hes
  match es, hes with
  | [_, _, _, _], _ => rfl

theorem proved : Rows.ExtensionChangesSaid :=
  OpenClaim.holds_of_wide 4 Try.f4 rfl rfl rfl rfl rfl rfl rfl ⟨rfl, rfl, rfl, rfl, rfl⟩ rfl rfl rfl rfl rfl (by kernel_rfl) Try.func4 (by kernel_rfl)
    (of_decide_eq_true (by kernel_rfl)) (by unfold Func.isWrapper; first | (rw [if_pos (by decide +kernel)]; kernel_rfl) | (rw [if_neg (by decide +kernel)]; exact ⟨rfl, rfl⟩))
    (fun os started H enc _ => lifted os started H enc)
#print axioms proved
end Go.Proofs.Ythgokfceakbjlaa.extensionChanges
