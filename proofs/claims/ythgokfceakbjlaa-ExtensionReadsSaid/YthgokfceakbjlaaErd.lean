/-
  Proved: mailboatlaw14.ExtensionReads returns true for every input, and leaves its arguments as they were. No condition.
-/
import Derived.Test.YthgokfceakbjlaaRows
import Derived.Test.YthgokfceakbjlaaJa
import Derived.Test.YthgokfceakbjlaaJn
import Derived.Test.YthgokfceakbjlaaIl
import Derived.Test.YthgokfceakbjlaaIe
import Derived.Test.YthgokfceakbjlaaIj
import Derived.Test.YthgokfceakbjlaaAx
import Derived.Test.YthgokfceakbjlaaAw
set_option linter.unusedVariables false
set_option linter.unusedSimpArgs false
namespace Go.Proofs.Ythgokfceakbjlaa.extensionReads
open Go Go.ChangeShapes Go.WideShapes Go.ChangeAt Go.RowKit Go.Joins Go.Proofs.Ythgokfceakbjlaa
attribute [local go_sem] B_getElem B_size B_app B_extract B_get B_toList

theorem own : ownKnob Try.prog.godebug = none := by kernel_rfl

attribute [local go_sem] bunC
set_option maxRecDepth 100000 in
set_option maxHeartbeats 16000000 in
theorem walk (b : Bun) (u : Value) (w : World) (hr : RBlks w w.heap.size u b.blocks) (hf : Fits b) :
    Calls Try.prog 3 #[.agg (bunC b u).toArray] w (Says w) := by
  obtain ⟨ua, uc, rfl, _⟩ := id hr
  have HR := Lib.hid hr
  have HF := Lib.hid hf
  clear hr hf
  obtain ⟨⟨a1, ea⟩, hHAG⟩ : ∃ q, ageS b = q := ⟨_, rfl⟩
  have HAG := Lib.hid hHAG
  obtain ⟨⟨lim, cnt, eh⟩, hHHO⟩ : ∃ q, hopS b = q := ⟨_, rfl⟩
  have HHO := Lib.hid hHHO
  obtain ⟨⟨lv, ev⟩, hHG⟩ : ∃ q, getS b 3 = q := ⟨_, rfl⟩
  have HG := Lib.hid hHG
  clear hHAG hHHO hHG
  go_enter Try.func3, Try.ntmps3
  simp only [bunC]
  go_wp2_with fail
  refine (bgreat_any b _ _ (HR.out.below' (balloc0 (Below.refl _ _))) HF.out).mono ?_
  rintro e w1 ⟨g, rfl, hb1⟩
  have hB1 : Below w.heap.size w w1 := btrans0 (balloc0 (Below.refl _ _)) hb1
  have y1 := hb1.size
  (try simp at y1)
  have zb1 : w.heap.size < w1.heap.size := by omega
  have Ab : w1.heap[w.heap.size]? = some (.cells (bunC b (.slice ua b.blocks.length uc)).toArray 28 (0, 0)) := (hb1.block _ (by first | exact zb0 | (simp; done) | (simp; omega) | omega)).trans (by repeat (first | exact HAb.out | exact heap_new | exact heap_new' (by first | rfl | (simp; done)) | refine (Below.heap_alloc _ _ _ (by first | omega | (simp; done) | (simp; omega))).trans ?_))
  have cab := fun o => cellB Ab o
  have HAb := Lib.hid Ab
  simp only [bunC] at cab
  clear Ab
  clear hb1
  cases g
  case true =>
    go_wp2_with fail
    refine (awake_any _).mono ?_
    rintro e w99 ⟨rfl, hb99⟩
    go_wp2
    go_ret
    exact ⟨rfl, (by repeat' (first | (with_reducible refine bset ?_ ?_) | (with_reducible exact Below.refl _ _) | (with_reducible assumption) | (with_reducible refine bdrewN ?_ _) | (with_reducible refine bdrew ?_) | (with_reducible refine balloc0 ?_) | (with_reducible refine balloc ?_ ?_) | (with_reducible apply btrans0; rotate_left; with_reducible assumption) | (with_reducible apply btrans; rotate_left; with_reducible assumption) | exact Below.refl _ _ | assumption | (apply btrans0; rotate_left; assumption) | (apply btrans; rotate_left; assumption) | (simp; done) | omega | (simp; omega)))⟩
  go_wp2_with fail
  refine (age_any b _ _ (HR.out.below' (hB1)) HF.out).mono ?_
  rw [HAG.out]
  simp only
  rintro e w2 ⟨rfl, hb2⟩
  have hB2 : Below w.heap.size w w2 := btrans0 (hB1) hb2
  have y2 := hb2.size
  (try simp at y2)
  have zb2 : w.heap.size < w2.heap.size := by omega
  have Ab : w2.heap[w.heap.size]? = some (.cells (bunC b (.slice ua b.blocks.length uc)).toArray 28 (0, 0)) := (hb2.block _ (by first | exact zb1 | (simp; done) | (simp; omega) | omega)).trans (by repeat (first | exact HAb.out | exact heap_new | exact heap_new' (by first | rfl | (simp; done)) | refine (Below.heap_alloc _ _ _ (by first | omega | (simp; done) | (simp; omega))).trans ?_))
  clear cab HAb
  have cab := fun o => cellB Ab o
  have HAb := Lib.hid Ab
  simp only [bunC] at cab
  clear Ab
  clear hb2
  go_wp2_with fail
  refine (rage_any b _ _ (HR.out.below' (hB2)) HF.out).mono ?_
  rw [HAG.out]
  simp only
  rintro e w3 ⟨rfl, hb3⟩
  have hB3 : Below w.heap.size w w3 := btrans0 (hB2) hb3
  have y3 := hb3.size
  (try simp at y3)
  have zb3 : w.heap.size < w3.heap.size := by omega
  have Ab : w3.heap[w.heap.size]? = some (.cells (bunC b (.slice ua b.blocks.length uc)).toArray 28 (0, 0)) := (hb3.block _ (by first | exact zb2 | (simp; done) | (simp; omega) | omega)).trans (by repeat (first | exact HAb.out | exact heap_new | exact heap_new' (by first | rfl | (simp; done)) | refine (Below.heap_alloc _ _ _ (by first | omega | (simp; done) | (simp; omega))).trans ?_))
  clear cab HAb
  have cab := fun o => cellB Ab o
  have HAb := Lib.hid Ab
  simp only [bunC] at cab
  clear Ab
  clear hb3
  go_wp2_with fail
  refine (hops_any b _ _ (HR.out.below' (hB3)) HF.out).mono ?_
  rw [HHO.out]
  simp only
  rintro e w4 ⟨rfl, hb4⟩
  have hB4 : Below w.heap.size w w4 := btrans0 (hB3) hb4
  have y4 := hb4.size
  (try simp at y4)
  have zb4 : w.heap.size < w4.heap.size := by omega
  have Ab : w4.heap[w.heap.size]? = some (.cells (bunC b (.slice ua b.blocks.length uc)).toArray 28 (0, 0)) := (hb4.block _ (by first | exact zb3 | (simp; done) | (simp; omega) | omega)).trans (by repeat (first | exact HAb.out | exact heap_new | exact heap_new' (by first | rfl | (simp; done)) | refine (Below.heap_alloc _ _ _ (by first | omega | (simp; done) | (simp; omega))).trans ?_))
  clear cab HAb
  have cab := fun o => cellB Ab o
  have HAb := Lib.hid Ab
  simp only [bunC] at cab
  clear Ab
  clear hb4
  go_wp2_with fail
  refine (rhops_any b _ _ (HR.out.below' (hB4)) HF.out).mono ?_
  rw [HHO.out]
  simp only
  rintro e w5 ⟨rfl, hb5⟩
  have hB5 : Below w.heap.size w w5 := btrans0 (hB4) hb5
  have y5 := hb5.size
  (try simp at y5)
  have zb5 : w.heap.size < w5.heap.size := by omega
  have Ab : w5.heap[w.heap.size]? = some (.cells (bunC b (.slice ua b.blocks.length uc)).toArray 28 (0, 0)) := (hb5.block _ (by first | exact zb4 | (simp; done) | (simp; omega) | omega)).trans (by repeat (first | exact HAb.out | exact heap_new | exact heap_new' (by first | rfl | (simp; done)) | refine (Below.heap_alloc _ _ _ (by first | omega | (simp; done) | (simp; omega))).trans ?_))
  clear cab HAb
  have cab := fun o => cellB Ab o
  have HAb := Lib.hid Ab
  simp only [bunC] at cab
  clear Ab
  clear hb5
  go_wp2_with fail
  refine (visited_any b _ _ (HR.out.below' (hB5)) HF.out).mono ?_
  unfold GetPost
  rw [HG.out]
  simp only
  rintro e w6 ⟨v6, rfl, hb6, hri⟩
  have hB6 : Below w.heap.size w w6 := btrans0 (hB5) hb6
  have y6 := hb6.size
  (try simp at y6)
  have zb6 : w.heap.size < w6.heap.size := by omega
  have Ab : w6.heap[w.heap.size]? = some (.cells (bunC b (.slice ua b.blocks.length uc)).toArray 28 (0, 0)) := (hb6.block _ (by first | exact zb5 | (simp; done) | (simp; omega) | omega)).trans (by repeat (first | exact HAb.out | exact heap_new | exact heap_new' (by first | rfl | (simp; done)) | refine (Below.heap_alloc _ _ _ (by first | omega | (simp; done) | (simp; omega))).trans ?_))
  clear cab HAb
  have cab := fun o => cellB Ab o
  have HAb := Lib.hid Ab
  simp only [bunC] at cab
  clear Ab
  have HI6 := Lib.hid hri
  clear hri
  clear hb6
  go_wp2_with fail
  refine (rvisited_any b _ _ (HR.out.below' (hB6)) HF.out).mono ?_
  unfold GetPost
  rw [HG.out]
  simp only
  rintro e w7 ⟨v7, rfl, hb7, hri⟩
  have hB7 : Below w.heap.size w w7 := btrans0 (hB6) hb7
  have hK6_7 : Below w6.heap.size w6 w7 := btrans0 (Below.refl _ _) hb7
  have y7 := hb7.size
  (try simp at y7)
  have zb7 : w.heap.size < w7.heap.size := by omega
  have Ab : w7.heap[w.heap.size]? = some (.cells (bunC b (.slice ua b.blocks.length uc)).toArray 28 (0, 0)) := (hb7.block _ (by first | exact zb6 | (simp; done) | (simp; omega) | omega)).trans (by repeat (first | exact HAb.out | exact heap_new | exact heap_new' (by first | rfl | (simp; done)) | refine (Below.heap_alloc _ _ _ (by first | omega | (simp; done) | (simp; omega))).trans ?_))
  clear cab HAb
  have cab := fun o => cellB Ab o
  have HAb := Lib.hid Ab
  simp only [bunC] at cab
  clear Ab
  have HI7 := Lib.hid hri
  clear hri
  clear hb7
  go_wp2_with fail
  refine (equalI_any lv _ _ _ (HI6.out.below' (hK6_7)) (HI7.out.below' (Below.refl _ _))).mono ?_
  rintro e w8 ⟨rfl, hb8⟩
  have hB8 : Below w.heap.size w w8 := btrans0 (hB7) hb8
  have hK6_8 : Below w6.heap.size w6 w8 := btrans0 (hK6_7) hb8
  have hK7_8 : Below w7.heap.size w7 w8 := btrans0 (Below.refl _ _) hb8
  have y8 := hb8.size
  (try simp at y8)
  have zb8 : w.heap.size < w8.heap.size := by omega
  have Ab : w8.heap[w.heap.size]? = some (.cells (bunC b (.slice ua b.blocks.length uc)).toArray 28 (0, 0)) := (hb8.block _ (by first | exact zb7 | (simp; done) | (simp; omega) | omega)).trans (by repeat (first | exact HAb.out | exact heap_new | exact heap_new' (by first | rfl | (simp; done)) | refine (Below.heap_alloc _ _ _ (by first | omega | (simp; done) | (simp; omega))).trans ?_))
  clear cab HAb
  have cab := fun o => cellB Ab o
  have HAb := Lib.hid Ab
  simp only [bunC] at cab
  clear Ab
  clear hb8
  go_wp2_with fail
  refine (awake_any _).mono ?_
  rintro e w99 ⟨rfl, hb99⟩
  go_wp2
  go_ret
  exact ⟨rfl, (by repeat' (first | (with_reducible refine bset ?_ ?_) | (with_reducible exact Below.refl _ _) | (with_reducible assumption) | (with_reducible refine bdrewN ?_ _) | (with_reducible refine bdrew ?_) | (with_reducible refine balloc0 ?_) | (with_reducible refine balloc ?_ ?_) | (with_reducible apply btrans0; rotate_left; with_reducible assumption) | (with_reducible apply btrans; rotate_left; with_reducible assumption) | exact Below.refl _ _ | assumption | (apply btrans0; rotate_left; assumption) | (apply btrans; rotate_left; assumption) | (simp; done) | omega | (simp; omega)))⟩

set_option maxRecDepth 100000 in
theorem lifted (os : Os) (started : os.Started) (H : Type) (enc : TypeId × Value → H) :
    ReturnsInHanded {} Try.checked os 3 .any (Rows.extensionReadsSpec.pre6 enc Try.prog Try.f3 Rows.extensionReadsRow.domain false) (Rows.extensionReadsSpec.post enc Try.prog Try.f3 false true false false) := by
  refine returnsInHanded_of_change (C := Try.checked) own started (by kernel_rfl) Try.func3
    (ChangeSpec.witness6 (enc := enc) (C := Try.checked) false ⟨#[], #[.agg #[.int .i64 0, .int .i64 0, .int .i64 0, .int .i64 0, .int .i64 0, .int .i64 0, .int .i64 0, .int .i64 0, .int .i64 0, .int .i64 0, .slice none 0 0, .string (B [])]], []⟩ 8 (by kernel_rfl) (by kernel_rfl) (by kernel_rfl) (by kernel_rfl)) ?_
  intro W base args ds gs before hval0 hW hcnd _
  have hval : ∀ (j : Nat) t v, Try.f3.params[j]? = some t → args[j]? = some v → Value.okWide Try.prog W .any base t v := hval0
  have hW' := hW
  obtain ⟨p, q, hA0, hV, rfl, hfz, hnd⟩ := hW
  have hA : DataW.TrodAll enc Try.prog W 0 (fun _ => true) true Try.f3.params.toList args.toList ds p := hA0
  rw [Try.params3] at hA hval
  obtain ⟨v0, vs0, d0, ds0, p0, q0, hargs, rfl, rfl, h0, r0⟩ := trodAll_cons hA
  obtain ⟨rfl, rfl, rfl⟩ := trodAll_nil r0
  obtain rfl : args = #[v0] := by cases args; simp_all
  obtain ⟨x0, u0, rfl, hr0, hf0⟩ := open_bun (hval 0 28 v0 rfl rfl) h0
  refine (walk x0 u0 W hr0 hf0).mono fun e W' ⟨he, hB⟩ => ?_
  subst he
  refine ⟨_, rfl, law_post (by kernel_rfl) (by kernel_rfl) rfl Try.underlying4 rfl ?_ hW' hB⟩
  intro es hes
  match es, hes with
  | [_], _ => rfl

theorem proved : Rows.ExtensionReadsSaid :=
  OpenClaim.holds_of_wide 3 Try.f3 rfl rfl rfl rfl rfl rfl rfl ⟨rfl, rfl, rfl, rfl, rfl⟩ rfl rfl rfl rfl rfl (by kernel_rfl) Try.func3 (by kernel_rfl)
    (of_decide_eq_true (by kernel_rfl)) (by unfold Func.isWrapper; first | (rw [if_pos (by decide +kernel)]; kernel_rfl) | (rw [if_neg (by decide +kernel)]; exact ⟨rfl, rfl⟩))
    (fun os started H enc _ => lifted os started H enc)
#print axioms proved
end Go.Proofs.Ythgokfceakbjlaa.extensionReads
