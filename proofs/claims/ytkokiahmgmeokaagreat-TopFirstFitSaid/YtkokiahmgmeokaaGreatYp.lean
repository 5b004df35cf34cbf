/- slices.Sort of ints; storage.levels. -/
import Derived.BigQuiet
import Derived.BigRegion
import Derived.Deep.DeepCutAuto
import Derived.Deep.CutBlock
import Derived.Lib.MinMax
import Derived.Test.YtkokiahmgmeokaaGreatYs
import Derived.Test.YtkokiahmgmeokaaGreatYo
import Derived.Test.YtkokiahmgmeokaaGreatYn
import Derived.Test.YtkokiahmgmeokaaGreatSz
set_option linter.unusedVariables false
set_option linter.unusedSimpArgs false
namespace Go.Proofs.YtkokiahmgmeokaaGreat
open Go Go.RowKit Go.Maps Iv
attribute [local go_sem] Oper.semAt_some
attribute [local go_sem] B_getElem B_size B_app B_extract B_get B_toList

/-- the row that the call got holds other numbers out of the same ones; all else lies as it did -/
def SortPost (u : Value) (ts : List Int) (w : World) (e : Ending) (w' : World) : Prop :=
  e = .returned (.tuple #[]) ∧ (∃ ts' : List Int, ts'.length = ts.length ∧ (∀ x ∈ ts', x ∈ ts) ∧ RRow intC 1 w' w'.heap.size u ts') ∧
    (w'.os = w.os ∧ w'.tape = w.tape ∧ w'.output = w.output) ∧ w.heap.size ≤ w'.heap.size ∧ ∀ q, q < w.heap.size → u.ownBlock ≠ some q → w'.heap[q]? = w.heap[q]?
open Go.Sort in
theorem sorti_any (ts : List Int) (u : Value) (base : Nat) (w : World) (ho : w.ownsRow base 3 1 u ts.length (ints ts)) (hl : ts.length ≤ 100000) :
    Calls Tryz.prog 75 #[u] w (SortPost u ts w) := by
  cases hM : ts with
  | nil =>
    subst hM
    obtain ⟨a, c, rfl⟩ := own_shape ho
    refine (Tryz.slices_Sort_int_none a c w).mono fun e w' ⟨h1, h2⟩ => ?_
    subst h2
    have hr : RRow intC 1 w' w'.heap.size (.slice a 0 c) [] := by
      rcases ho.2 with ⟨h0, _⟩ | ⟨g, cap, cur, h0, hb, hg, hn, hm, _⟩
      · injection h0 with h0 h1 h2
        subst h0 h2
        exact RRow.nil _ _ _ _
      · injection h0 with h0 h1 h2
        subst h0 h2
        exact ⟨_, _, rfl, Nat.zero_le _, hm, (fun h => by cases h), fun h => by cases h⟩
    exact ⟨h1, ⟨[], rfl, (fun x hx => by cases hx), hr⟩, ⟨rfl, rfl, rfl⟩, Nat.le_refl _, fun _ _ _ => rfl⟩
  | cons x r =>
    have hp : 0 < ts.length := by rw [hM]; simp
    rw [← hM]
    clear hM
    obtain ⟨g, c, rfl⟩ := own_form ho hp
    have hgl := (ho.lt g rfl).2
    have hcc : ts.length ≤ c ∧ c ≤ maxLen := by
      rcases ho.2 with ⟨h0, _⟩ | ⟨g', cap, cur, h0, hb, hg, hn, hm, _⟩
      · cases h0
      · injection h0 with h0 h1 h2
        subst h2
        exact ⟨hn, hm⟩
    have hH : Holds (Value.int .i64) w g 0 ts.toArray := by
      intro j hj
      have hj' : j < ts.length := by simpa using hj
      refine ⟨?_, by have := ho.frozenAt (g := g) j; simpa using this⟩
      have h2 : (ints ts)[j]? = some (.int .i64 ts[j]) := by
        unfold ints
        rw [List.getElem?_map, List.getElem?_eq_getElem hj']
        rfl
      have := ho.cells (g := g) rfl j _ h2
      rw [addN] at this
      rw [this]
      simp [hj']
    refine (Tryz.slices_Sort_int g 0 c ts w hH hgl (by omega)).mono ?_
    rintro e w' ⟨rfl, n, os, rfl⟩
    obtain ⟨ss, hss⟩ : ∃ ss, ts.mergeSort (fun x y => decide (x ≤ y)) = ss := ⟨_, rfl⟩
    have hsl : ss.length = ts.length := by rw [← hss]; exact List.length_mergeSort _
    have hsm : ∀ x ∈ ss, x ∈ ts := by rw [← hss]; exact fun x hx => List.mem_mergeSort.1 hx
    rw [hss]
    clear hss
    have hH2 : Holds (Value.int .i64) (Sort.ahead w n) g 0 ts.toArray := hH
    have hput := holds_putRow (Value.int .i64) (Sort.ahead w n) g 0 _ ss.toArray hH2 (by simp [hsl])
    have hgl2 : g < (putRow (Value.int .i64) (Sort.ahead w n) g 0 ss.toArray).heap.size := by simpa using hgl
    have hgrow := holds_grow (Value.int .i64) _ os g 0 _ hgl2 hput
    have hk : ∀ q, q < w.heap.size → (Value.slice (some ⟨g, 0, none⟩) ts.length c).ownBlock ≠ some q → (grow (putRow (Value.int .i64) (Sort.ahead w n) g 0 ss.toArray) os).heap[q]? = w.heap[q]? := by
      intro q hq hne
      have hqg : q ≠ g := fun e => hne (by rw [e]; rfl)
      rw [Go.Sort.heap_grow_old _ _ (by simpa using hq)]
      unfold putRow mapBlock
      rw [Array.getElem?_modify, if_neg (Ne.symm hqg)]
      rfl
    refine ⟨rfl, ⟨ss, hsl, hsm, ?_⟩, ⟨rfl, rfl, rfl⟩, by first | (simp [Sort.ahead]; done) | (simp [Sort.ahead]; omega), hk⟩
    refine ⟨some ⟨g, 0, none⟩, c, by rw [hsl], by rw [hsl]; exact hcc.1, hcc.2, (fun h => by cases h), fun _ => ⟨g, 0, rfl, by first | (simp [Sort.ahead]; done) | (simp [Sort.ahead]; omega), fun i x hx j v hv => ?_⟩⟩
    have hj : j = 0 := by
      have := (List.getElem?_eq_some_iff.1 hv).1
      simp [intC] at this; omega
    subst hj
    simp [intC] at hv
    subst hv
    obtain ⟨hi, hx'⟩ := List.getElem?_eq_some_iff.1 hx
    have := (hgrow i (by simpa using hi)).1
    rw [show 0 + i * 1 + 0 = 0 + i by omega, this]
    simp [hi, hx']
theorem infoLevel : (Tryz.prog.info? 147).map (fun i => (i.zero, i.size, i.bytes)) = some (some (.agg #[.int .i64 0, .int .i64 0]), 2, 16) := by kernel_rfl
def LvRet (N : Nat) (w : World) (e : Ending) (w' : World) : Prop := ∃ u P, e = .returned u ∧ RSps w' w'.heap.size u P ∧ P.length ≤ N ∧ RFrom w.heap.size u ∧ Below w.heap.size w w'
theorem LvS.keep {B Z mb n : Nat} {D : DataW Unit} {ts : List Int} {W W' : World} (h : LvS B Z mb n D ts W) (hZ : Z + 1 < B ∧ mb < B) (hB : B ≤ W.heap.size) (k : ∀ q, q < W.heap.size → W'.heap[q]? = W.heap[q]?) : LvS B Z mb n D ts W' := by
  obtain ⟨vo, bm, hm, bt, ow, hwf⟩ := h
  exact ⟨vo, (k _ (by omega)).trans bm, ownsMap_at hm (k _ (by omega)), (k _ (by omega)).trans bt, own_kept1 ow (fun q hq => k q (ow.lt q hq).2), hwf⟩
set_option maxRecDepth 100000 in
set_option maxHeartbeats 16000000 in
theorem levels_any (l : List Hld) (i : Int) (ul : Value) (w : World) (hl : RRow hldC 5 w w.heap.size ul l) (h5 : l.length ≤ 512) (hv : ∀ h ∈ l, hVal h) :
    Calls Tryz.prog 42 #[ul, .int .i64 i] w (LvRet (2 * l.length) w) := by
  obtain ⟨al, cl, rfl, l1, l2, l3, l4⟩ := hl
  unfold maxLen at l2
  have hll : l.length ≤ 9223372036854775807 := by omega
  have HL := Lib.hid l4
  have HV := Lib.hid hv
  obtain ⟨i0, hin, hz0, hz1, hz2⟩ := info_parts infoLevel
  have hmm := @run_makeMap Tryz.prog
  have hcall : ∀ args W, (callFunc 74 args).run Tryz.prog W = .ok (.enter 74 args) W := fun _ _ => by kernel_rfl
  clear l3 l4 hv
  go_enter Tryz.func42, Tryz.ntmps42
  go_upto_region 4 with fail
  obtain ⟨w4, hw4⟩ : ∃ q, ((w.alloc (.map #[] 0)).alloc (.cells #[.map (some w.heap.size)] 148)).alloc (.cells #[.slice none 0 0] 22) = q := ⟨_, rfl⟩
  rw [hw4]
  have hB4 : Below w.heap.size w w4 := by rw [← hw4]; exact belowA
  have hm4 : w4.ownsMap Tryz.prog 3 (plainElem (H := Unit) Tryz.prog 3) w.heap.size 0 (.map []) := by rw [← hw4]; exact ownsMap_at (World.ownsMap_made w _ _ _) ((Below.heap_alloc _ _ _ (by simp; omega)).trans (Below.heap_alloc _ _ _ (by simp)))
  have b41 : Boxed w4 (w.heap.size + 1) 148 (.map (some w.heap.size)) := by rw [← hw4]; exact (by repeat (first | exact heap_new' (by first | rfl | (simp; done)) | refine (Below.heap_alloc _ _ _ (by first | (simp; done) | (simp; omega))).trans ?_))
  have b42 : Boxed w4 (w.heap.size + 1 + 1) 22 (.slice none 0 0) := by rw [← hw4]; exact (by repeat (first | exact heap_new' (by first | rfl | (simp; done)) | refine (Below.heap_alloc _ _ _ (by first | (simp; done) | (simp; omega))).trans ?_))
  have hs4 : w.heap.size + 1 + 1 < w4.heap.size := b42.lt
  have HS0 : Hid (LvS w4.heap.size (w.heap.size + 1) w.heap.size 0 (.map []) [] w4) := Lib.hid ⟨_, b41, hm4, b42, World.ownsRow_nil _ _ _ _, fun x hx => by cases hx⟩
  clear hw4 hm4 b41 b42
  go_wp2
  go_loopw [18] (fun iv wr => ∃ (k n : Nat) (D : DataW Unit) (ts : List Int), k ≤ l.length ∧ iv = .int .i64 k ∧ n ≤ 2 * k ∧ ts.length ≤ 2 * k ∧ Hid (LvS w4.heap.size (w.heap.size + 1) w.heap.size n D ts wr) ∧ Below w.heap.size w wr ∧ w4.heap.size ≤ wr.heap.size) (fun iv _ => l.length - (intOf iv).toNat)
  case atStart => exact ⟨0, 0, _, [], Nat.zero_le _, rfl, Nat.le_refl _, Nat.le_refl _, HS0, hB4, Nat.le_refl _⟩
  case round =>
    clear hB4 HS0
    obtain ⟨k, n, D, ts, hk, rfl, hn, hts, HS, hB, hsr⟩ := hrel
    by_cases hlt : k < l.length
    · obtain ⟨bb, o, rfl, hbn, hcell⟩ := HL.out (by omega)
      obtain ⟨x, hx⟩ : ∃ x, l[k]? = some x := ⟨_, List.getElem?_eq_getElem hlt⟩
      have q0 : wr.cell? ⟨bb, o + k * 5, none⟩ = some (.int .i64 x.nd) := (hB.cell (p := ⟨bb, o + k * 5 + 0, none⟩) hbn).trans (hcell k x hx 0 _ rfl)
      have q1 : wr.cell? ⟨bb, o + k * 5 + 1, none⟩ = some (.int .i64 x.fr) := (hB.cell (p := ⟨bb, o + k * 5 + 1, none⟩) hbn).trans (hcell k x hx 1 _ rfl)
      have q2 : wr.cell? ⟨bb, o + k * 5 + 2, none⟩ = some (.int .i64 x.tt) := (hB.cell (p := ⟨bb, o + k * 5 + 2, none⟩) hbn).trans (hcell k x hx 2 _ rfl)
      have q3 : wr.cell? ⟨bb, o + k * 5 + 3, none⟩ = some (.int .i64 x.sz) := (hB.cell (p := ⟨bb, o + k * 5 + 3, none⟩) hbn).trans (hcell k x hx 3 _ rfl)
      have q4 : wr.cell? ⟨bb, o + k * 5 + 4, none⟩ = some (.int .i64 x.tk) := (hB.cell (p := ⟨bb, o + k * 5 + 4, none⟩) hbn).trans (hcell k x hx 4 _ rfl)
      have k0 : (0 : Int) ≤ (k : Int) := by omega
      have k1 : (k : Int) < (l.length : Int) := by omega
      have hxv := HV.out x (List.mem_of_getElem? hx)
      obtain ⟨v1, v2, v3⟩ := hxv
      have wf1 : (Lit.int .i64 x.fr).wf = true := WalkArith.wf_i64 (by omega)
      have wf2 : (Lit.int .i64 x.tt).wf = true := WalkArith.wf_i64 (by omega)
      have WF1 := Lib.hid wf1
      have WF2 := Lib.hid wf2
      clear hx hcell v1 v2 v3 wf1 wf2
      go_upto_region 7 with fail
      obtain ⟨w6, hw6⟩ : ∃ q, wr.alloc (.cells #[.int .i64 x.nd, .int .i64 x.fr, .int .i64 x.tt, .int .i64 x.sz, .int .i64 x.tk] 95) = q := ⟨_, rfl⟩
      rw [hw6]
      have hB6 : Below w.heap.size w w6 := by rw [← hw6]; exact balloc0 hB
      have hK6 : ∀ q, q < wr.heap.size → w6.heap[q]? = wr.heap[q]? := by rw [← hw6]; exact fun q hq => Below.heap_alloc _ _ _ hq
      have GX : w6.heap[wr.heap.size]? = some (.cells #[.int .i64 x.nd, .int .i64 x.fr, .int .i64 x.tt, .int .i64 x.sz, .int .i64 x.tk] 95 (0, 0)) := by rw [← hw6]; exact heap_new
      have hs6 : wr.heap.size < w6.heap.size := by rw [← hw6]; simp
      clear hw6 q0 q1 q2 q3 q4
      have HS6 : Hid (LvS w4.heap.size (w.heap.size + 1) w.heap.size n D ts w6) := Lib.hid (HS.out.keep (by omega) hsr hK6)
      have cx := fun q => cellB GX q
      by_cases z : x.nd = i
      · have f1 : (x.nd == i) = true := by rw [beq_iff_eq]; exact z
        clear z
        go_wp2_with fail
        refine (note_any w4.heap.size (w.heap.size + 1) w.heap.size n D ts x.fr x.sz _ (by omega) (by omega) (by omega) HS6.out (by omega) (by omega) WF1.out).mono ?_
        rintro e w7 hn7
        obtain ⟨rfl, ⟨D7, ts7, ht7, hS7⟩, hk7, hb7⟩ := hn7
        have hB7 : Below w.heap.size w w7 := hB6.trans hb7
        have GX7 : w7.heap[wr.heap.size]? = some (.cells #[.int .i64 x.nd, .int .i64 x.fr, .int .i64 x.tt, .int .i64 x.sz, .int .i64 x.tk] 95 (0, 0)) := (hk7.2 _ _ _ _ GX (by decide) (by omega)).trans GX
        have hs7 : w6.heap.size ≤ w7.heap.size := hk7.1
        have hx7 : wr.heap.size < w7.heap.size := by omega
        have hl7 : ts7.length ≤ 2 * k + 1 := by rcases ht7 with rfl | ⟨t, rfl⟩ <;> (try simp) <;> omega
        have HS7 := Lib.hid hS7
        clear cx GX ht7 hS7 hk7 hb7 hK6
        have cx := fun q => cellB GX7 q
        go_wp2_with fail
        refine (note_any w4.heap.size (w.heap.size + 1) w.heap.size (n + 1) D7 ts7 x.tt _ _ (by omega) (by omega) (by omega) HS7.out (by omega) (by omega) WF2.out).mono ?_
        rintro e w8 hn8
        obtain ⟨rfl, ⟨D8, ts8, ht8, hS8⟩, hk8, hb8⟩ := hn8
        have hB8 : Below w.heap.size w w8 := hB7.trans hb8
        have hs8 : w7.heap.size ≤ w8.heap.size := hk8.1
        have hl8 : ts8.length ≤ 2 * k + 2 := by rcases ht8 with rfl | ⟨t, rfl⟩ <;> (try simp) <;> omega
        have HS8 := Lib.hid hS8
        clear cx GX7 ht8 hS8 hk8 hb8
        go_wp2
        go_roundw
        case rel => exact ⟨k + 1, n + 1 + 1, D8, ts8, by omega, by go_num, by omega, by omega, HS8, hB8, by omega⟩
        case measure => simp [intOf]; omega
      · have f1 : (x.nd == i) = false := by rw [beq_eq_false_iff_ne]; exact z
        clear z
        go_wp2
        go_roundw
        case rel => exact ⟨k + 1, n, D, ts, by omega, by go_num, by omega, by omega, HS6, hB6, by omega⟩
        case measure => simp [intOf]; omega
    · obtain rfl : k = l.length := by omega
      obtain ⟨vo, bm, hm, bt, ow, hwf⟩ := HS.out
      obtain ⟨va, vc, rfl⟩ := own_shape ow
      have HBM := Lib.hid bm
      have HM := Lib.hid hm
      have HBT := Lib.hid bt
      have HOW := Lib.hid ow
      have HWF := Lib.hid hwf
      have ct := bt.cell
      have zt := bt.lt
      clear bm hm bt ow hwf
      go_wp2_with fail
      refine (sorti_any ts _ _ _ HOW.out (by omega)).mono ?_
      rintro e w5 hp5
      obtain ⟨rfl, ⟨ss, hsl, hsm, hrow⟩, ⟨o1, o2, o3⟩, hs5, hk5⟩ := hp5
      have hown : ∀ q, q < w4.heap.size → (Value.slice va ts.length vc).ownBlock ≠ some q := fun q hq e => by have := (HOW.out.lt q e).1; omega
      have hB5 : Below w.heap.size w w5 := ⟨o1.trans hB.os, o2.trans hB.tape, o3.trans hB.output, Nat.le_trans hB.size hs5, fun q hq => (hk5 q (by omega) (hown q (by omega))).trans (hB.block q hq)⟩
      have HM5 : Hid (w5.ownsMap Tryz.prog 3 (plainElem (H := Unit) Tryz.prog 3) w.heap.size n D) := Lib.hid (ownsMap_at HM.out (hk5 _ (by omega) (hown _ (by omega))))
      have HBM5 : Hid (Boxed w5 (w.heap.size + 1) 148 (.map (some w.heap.size))) := Lib.hid ((hk5 _ (by omega) (hown _ (by omega))).trans HBM.out)
      have HBT5 : Hid (Boxed w5 (w.heap.size + 1 + 1) 22 (.slice va ts.length vc)) := Lib.hid ((hk5 _ (by omega) (hown _ (by omega))).trans HBT.out)
      have HSM : Hid (∀ x ∈ ss, (Lit.int .i64 x).wf = true) := Lib.hid (fun x hx => HWF.out x (hsm x hx))
      have hss5 : ss.length ≤ 2000 := by omega
      have hss6 : ss.length ≤ 2 * l.length := by omega
      rw [← hsl] at HBT5
      have hrow' : RRow intC 1 w5 w5.heap.size (.slice va ss.length vc) ss := by rw [hsl]; exact hrow
      obtain ⟨as5, cs5, e5, r1, r2, r3, r4⟩ := hrow'
      injection e5 with e51 e52 e53
      subst e51 e53
      unfold maxLen at r2
      have hrl : ss.length ≤ 9223372036854775807 := by omega
      have HR4 := Lib.hid r4
      have ct5 := HBT5.out.cell
      have zt5 := HBT5.out.lt
      clear ct zt hsl hsm hrow o1 o2 o3 hk5 hown r3 r4 hB
      go_wp2
      go_loopw [10, 44, 11] (fun ov iv sv wr => ∃ (k : Nat) (P : List Sp) (S : Int), k ≤ ss.length ∧ iv = .int .i64 k ∧ sv = .int .i64 S ∧ P.length ≤ k ∧ Hid (wr.ownsRow w5.heap.size 147 2 ov P.length (sps P)) ∧ Below w5.heap.size w5 wr) (fun _ iv _ _ => ss.length - (intOf iv).toNat)
      case atStart => exact ⟨0, [], 0, Nat.zero_le _, rfl, rfl, Nat.le_refl _, Lib.hid (World.ownsRow_nil _ _ _ _), Below.refl _ _⟩
      case round =>
        clear ct5 hlt
        obtain ⟨k, P, S, hk, rfl, rfl, hpl, HO, hB⟩ := hrel
        obtain ⟨pa, pc, rfl⟩ := own_shape HO.out
        have hsr2 : w5.heap.size ≤ wr.heap.size := hB.size
        have zz0 : w.heap.size + 1 < w5.heap.size := by omega
        have cmr : wr.cell? ⟨w.heap.size + 1, 0, none⟩ = some (.map (some w.heap.size)) := (hB.cell (p := ⟨w.heap.size + 1, 0, none⟩) zz0).trans HBM5.out.cell
        have zmr : w.heap.size + 1 < wr.heap.size := by omega
        have HMr : Hid (wr.ownsMap Tryz.prog 3 (plainElem (H := Unit) Tryz.prog 3) w.heap.size n D) := Lib.hid (ownsMap_at HM5.out (hB.block _ (by omega)))
        by_cases hlt : k < ss.length
        · obtain ⟨bb, o, rfl, hbn, hcell⟩ := HR4.out (by omega)
          obtain ⟨x, hx⟩ : ∃ x, ss[k]? = some x := ⟨_, List.getElem?_eq_getElem hlt⟩
          have q0 : wr.cell? ⟨bb, o + k, none⟩ = some (.int .i64 x) := (hB.cell (p := ⟨bb, o + k, none⟩) hbn).trans (by have := hcell k x hx 0 _ rfl; simpa using this)
          have k0 : (0 : Int) ≤ (k : Int) := by omega
          have k1 : (k : Int) < (ss.length : Int) := by omega
          have hkey : keyOf Tryz.prog 3 (.int .i64 x) = some (.int .i64 x) := keyOf_int_mk Tryz.underlying3 (HSM.out x (List.mem_of_getElem? hx))
          obtain ⟨c, hlook, -, -⟩ := HMr.out.lookup_int law3 Tryz.underlying148 Tryz.underlying3 (zero3 _) hkey
          clear hcell hx
          by_cases z : c = 0
          · have dz : (c == 0) = true := by rw [beq_iff_eq]; exact z
            clear z
            go_wp2
            go_roundw
            case rel => exact ⟨k + 1, P, S, by omega, by go_num, rfl, by omega, HO, hB⟩
            case measure => simp [intOf]; omega
          · have dz : (c == 0) = false := by rw [beq_eq_false_iff_ne]; exact z
            clear z
            go_wp2_with (at_builtin; refine wpList_append_F _ rfl _ _ _ rfl w5.heap.size 147 i0 _ 2 16 Tryz.underlying99 hin hz0 hz1 hz2 rfl (by omega) (.slice pa P.length pc) P.length (sps P) rfl (own_kept1 HO.out (fun q hq => Below.heap_alloc _ _ _ (HO.out.lt q hq).2)) ⟨wr.heap.size, 0, none⟩ 1 1 (spC (x, wrap64 (S + c))) rfl rfl (news_one heap_new) (by simp [spC, Value.oneCell']) (by simp only [maxLen]; omega) (by omega) (by simp; omega) (by omega) ?_; intro vo w9 ho9 hg9 hf9)
            have hB9 : Below w5.heap.size w5 w9 := Below.grown (balloc hB hsr2) hg9 (by simp; omega) (fun q hq => (HO.out.lt q hq).1)
            have HO9 := Lib.hid ho9
            clear ho9 hg9 hf9 hlook
            go_wp2
            go_roundw
            case rel => exact ⟨k + 1, P ++ [(x, wrap64 (S + c))], _, by omega, by go_num, rfl, by simp; omega, Lib.hid (by rw [List.length_append, sps_append]; simpa [sps] using HO9.out), hB9⟩
            case measure => simp [intOf]; omega
        · obtain rfl : k = ss.length := by omega
          go_wp2
          go_ret
          exact ⟨_, P, rfl, RSps.of_own HO.out, by omega, (own_from HO.out).le (by have := hB5.size; omega), hB5.trans (hB.mono hB5.size)⟩
end Go.Proofs.YtkokiahmgmeokaaGreat
