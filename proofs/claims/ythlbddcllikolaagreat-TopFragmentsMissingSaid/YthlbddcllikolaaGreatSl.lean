/- Joined by port.py: XSl -/
import Derived.BigQuiet
import Derived.BigRegion
import Derived.Deep.DeepCutAuto
import Derived.Deep.CutBlock
import Derived.Laws.AppendOwn
import Derived.Test.YthlbddcllikolaaGreatSk
import Derived.Test.YthlbddcllikolaaGreatJa
import Derived.Test.YthlbddcllikolaaGreatJb
import Derived.Test.YthlbddcllikolaaGreatJe
import Derived.Test.YthlbddcllikolaaGreatJh
import Derived.Test.YthlbddcllikolaaGreatJo
import Derived.Test.YthlbddcllikolaaGreatJp
import Derived.Test.YthlbddcllikolaaGreatJu
import Derived.Test.YthlbddcllikolaaGreatSb
import Derived.Test.YthlbddcllikolaaGreatSg
import Derived.Test.YthlbddcllikolaaGreatSi
set_option linter.unusedVariables false
set_option linter.unusedSimpArgs false
/-! XSl -/
namespace Go.Proofs.YthlbddcllikolaaGreat
open Go Go.RowKit Iv
attribute [local go_sem] Oper.semAt_some
attribute [local go_sem] B_getElem B_size B_app B_extract B_get B_toList
def copyB (l : List Blk) : List Blk := l.filter keepC
theorem copy_len (l : List Blk) : (copyB l).length ≤ l.length := List.length_filter_le _ _
theorem copy_take {l : List Blk} {k : Nat} {x : Blk} (h : l[k]? = some x) : copyB (l.take (k + 1)) = copyB (l.take k) ++ if keepC x = true then [x] else [] := by
  unfold copyB
  rw [List.take_add_one, h, List.filter_append]
  simp only [Option.toList]
  by_cases c : keepC x = true
  · rw [if_pos c, List.filter_cons_of_pos c]; rfl
  · rw [if_neg c, List.filter_cons_of_neg c]; rfl
theorem keep_and {x : Blk} (h1 : 0 ≤ x.flags) (h2 : x.flags ≤ 15) : (bits .and .i64 x.flags 1 != 0) = keepC x := by
  obtain ⟨n, hn⟩ := Int.eq_ofNat_of_zero_le h1
  unfold keepC
  rw [hn]
  have h : ∀ n : Fin 16, (bits .and .i64 (n.val : Int) 1 != 0) = ((n.val : Int) % 2 == 1) := by decide +kernel
  exact h ⟨n, by omega⟩
set_option maxRecDepth 100000 in
set_option maxHeartbeats 4000000 in
theorem copied_any (l : List Blk) (v : Value) (w : World) (h : RBlks w w.heap.size v l) (hf : ∀ x ∈ l, 0 ≤ x.flags ∧ x.flags ≤ 15) (hl : l.length ≤ 1000) :
    Calls Tryz.prog 32 #[v] w fun e w' => ∃ r, e = .returned r ∧ RBlks w' w'.heap.size r (copyB l) ∧ RFrom w.heap.size r ∧ Below w.heap.size w w' := by
  obtain ⟨a, c, rfl, h1, h2, h3, h4⟩ := h
  unfold maxLen at h2
  have hlen : l.length ≤ 9223372036854775807 := by omega
  have H4 := Lib.hid h4
  have HF := Lib.hid hf
  obtain ⟨i0, hin, hz0, hz1, hz2⟩ := info_parts infoBlk
  clear h3 h4 hf
  go_enter Tryz.func32, Tryz.ntmps32
  go_wp2
  go_loopw [3, 8] (fun ov iv wr => ∃ k : Nat, k ≤ l.length ∧ iv = .int .i64 k ∧ Hid (wr.ownsRow w.heap.size 88 3 ov (copyB (l.take k)).length ((copyB (l.take k)).flatMap blkC)) ∧ Below w.heap.size w wr) (fun _ iv _ => l.length - (intOf iv).toNat)
  case atStart => exact ⟨0, Nat.zero_le _, rfl, Lib.hid (World.ownsRow_nil _ _ _ _), Below.refl _ _⟩
  case round =>
    obtain ⟨k, hk, rfl, HO, hB⟩ := hrel
    by_cases hlt : k < l.length
    · skip
      obtain ⟨bb, o, rfl, hbn, hcell⟩ := H4.out (by omega)
      obtain ⟨x, hx⟩ : ∃ x, l[k]? = some x := ⟨_, List.getElem?_eq_getElem (by omega)⟩
      obtain ⟨q0, q1, q2⟩ := hcell k x hx
      have q0 := (hB.cell (p := ⟨bb, o + k * 3, none⟩) hbn).trans q0
      have q1 := (hB.cell (p := ⟨bb, o + k * 3 + 1, none⟩) hbn).trans q1
      have q2 := (hB.cell (p := ⟨bb, o + k * 3 + 2, none⟩) hbn).trans q2
      have k0 : (0 : Int) ≤ (k : Int) := by omega
      have k1 : (k : Int) < (l.length : Int) := by omega
      obtain ⟨f1, f2⟩ := HF.out x (List.mem_of_getElem? hx)
      have zb : bb < wr.heap.size := by have := hB.size; omega
      have HSN := Lib.hid (copy_take hx)
      clear hcell hx
      obtain ⟨L, hL⟩ : ∃ q, copyB (l.take k) = q := ⟨_, rfl⟩
      have hLl : L.length ≤ 1000 := by rw [← hL]; exact Nat.le_trans (copy_len _) (by rw [List.length_take]; omega)
      rw [hL] at HO HSN
      obtain ⟨va, vc, rfl⟩ := own_shape HO.out
      clear hL
      obtain ⟨E, hE⟩ : ∃ q, keepC x = q := ⟨_, rfl⟩
      have HE := Lib.hid hE
      have hka := keep_and f1 f2
      rw [hE] at hka
      clear hE
      cases E with
      | true =>
        have HN : Hid (copyB (l.take (k + 1)) = L ++ [x]) := Lib.hid (by rw [HSN.out, HE.out]; rfl)
        go_wp2_with (at_builtin; go_loud (refine wpList_append_F _ rfl _ _ _ rfl w.heap.size 88 i0 _ 3 32 Tryz.underlying26 hin hz0 hz1 hz2 rfl (by omega) (.slice va L.length vc) L.length (L.flatMap blkC) rfl (own_kept1 HO.out (fun q hq => (by exact belowA : Below wr.heap.size wr _).block q (HO.out.lt q hq).2)) ⟨wr.heap.size + 1, 0, none⟩ 1 1 (blkC x) rfl rfl (news_one (t := 88) (by exact heap_new' (by simp))) (by simp [blkC, Value.oneCell']) (by simp only [maxLen]; omega) (by omega) (by simp; have := hB.size; omega) (by omega) ?_); intro vo w9 ho9 hg9 hf9)
        have HO9 : Hid (w9.ownsRow w.heap.size 88 3 vo (copyB (l.take (k + 1))).length ((copyB (l.take (k + 1))).flatMap blkC)) := Lib.hid (by
          rw [HN.out, List.length_append, List.flatMap_append]
          simpa using ho9)
        have hB9 : Below w.heap.size w w9 := Below.grown (by exact belowA) hg9 (by simp; have := hB.size; omega) (fun q hq => (HO.out.lt q hq).1)
        clear ho9 hg9 hf9
        go_wp2
        refine ⟨⟨k + 1, by omega, by go_num, HO9, hB9⟩, by simp [intOf]; omega⟩
      | false =>
        have HN : Hid (copyB (l.take (k + 1)) = L) := Lib.hid (by rw [HSN.out, HE.out]; simp)
        go_wp2
        refine ⟨⟨k + 1, by omega, by go_num, Lib.hid (by rw [HN.out]; exact own_kept1 HO.out (fun q hq => (by exact belowA : Below wr.heap.size wr _).block q (HO.out.lt q hq).2)), belowA⟩, by simp [intOf]; omega⟩
    · obtain rfl : k = l.length := by omega
      have HO2 : Hid (wr.ownsRow w.heap.size 88 3 _ (copyB l).length ((copyB l).flatMap blkC)) := Lib.hid (by have := HO.out; rwa [List.take_length] at this)
      go_wp2
      go_ret
      exact ⟨_, rfl, RBlks.of_own HO2.out, own_from HO2.out, hB⟩
end Go.Proofs.YthlbddcllikolaaGreat
