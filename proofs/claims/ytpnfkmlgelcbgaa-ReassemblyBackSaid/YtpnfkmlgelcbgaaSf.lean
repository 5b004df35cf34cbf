/- Chapter 18: the reference of intervals: both, outside, Minus. -/
import Derived.BigQuiet
import Derived.BigRegion
import Derived.Deep.DeepCutAuto
import Derived.Deep.CutBlock
import Derived.Laws.AppendOwn
import Derived.Test.YtpnfkmlgelcbgaaSe
set_option linter.unusedVariables false
set_option linter.unusedSimpArgs false
namespace Go.Proofs.Ytpnfkmlgelcbgaa
open Go Go.RowKit Iv
attribute [local go_sem] Oper.semAt_some
attribute [local go_sem] B_getElem B_size B_app B_extract B_get B_toList
theorem both1_snoc (x : Sp) (b : List Sp) (y : Sp) : both1 x (b ++ [y]) = both1 x b ++ if max x.1 y.1 < min x.2 y.2 then [(max x.1 y.1, min x.2 y.2)] else [] := by
  unfold both1
  rw [List.filterMap_append]
  congr 1
  by_cases h : max x.1 y.1 < min x.2 y.2 <;> simp [h]
theorem both1_len (x : Sp) (b : List Sp) : (both1 x b).length ≤ b.length := List.length_filterMap_le _ _
theorem both_len (a b : List Sp) : (both a b).length ≤ a.length * b.length := by
  unfold both
  induction a with
  | nil => simp
  | cons x r ih => rw [List.flatMap_cons, List.length_append, List.length_cons, Nat.succ_mul]; have := both1_len x b; omega
theorem both_take {a b : List Sp} {k : Nat} {x : Sp} (h : a[k]? = some x) : both (a.take (k + 1)) b = both (a.take k) b ++ both1 x b := by
  unfold both
  rw [List.take_add_one, h, List.flatMap_append]
  simp
set_option maxRecDepth 100000 in
set_option maxHeartbeats 16000000 in
theorem rboth_any (a b : List Sp) (u v : Value) (w : World) (ha : RSps w w.heap.size u a) (hb : RSps w w.heap.size v b) (hla : a.length ≤ 1001) (hlb : b.length ≤ 1001) :
    Calls Try.prog 87 #[u, v] w fun e w' => ∃ r, e = .returned r ∧ RSps w' w'.heap.size r (both a b) ∧ Below w.heap.size w w' := by
  obtain ⟨aa, ac, rfl, a1, a2, a3, a4⟩ := ha
  obtain ⟨ba, bc, rfl, b1, b2, b3, b4⟩ := hb
  have HA4 := Lib.hid a4
  have HB4 := Lib.hid b4
  obtain ⟨i0, hin, hz0, hz1, hz2⟩ := info_parts infoSpan
  clear a3 a4 b3 b4 a2 b2
  go_enter Try.func87, Try.ntmps87
  go_wp2
  go_loopw [5, 6] (fun ov iv wr => ∃ i : Nat, i ≤ a.length ∧ iv = .int .i64 i ∧ Hid (wr.ownsRow w.heap.size 47 2 ov (both (a.take i) b).length (sps (both (a.take i) b))) ∧ Below w.heap.size w wr) (fun _ iv _ => a.length - (intOf iv).toNat)
  case atStart =>
    refine ⟨0, Nat.zero_le _, rfl, Lib.hid ?_, belowA⟩
    have := World.ownsRow_made (base := w.heap.size) (e := 47) (size := 2) w #[] 0 (Nat.le_refl _) (by simp) rfl
    simpa [both, sps] using this
  case round =>
    obtain ⟨i, hi, rfl, HO, hB⟩ := hrel
    by_cases hlt : i < a.length
    · obtain ⟨x, hx⟩ : ∃ x, a[i]? = some x := ⟨_, List.getElem?_eq_getElem hlt⟩
      have HX := Lib.hid hx
      have HTK := Lib.hid (both_take (b := b) hx)
      obtain ⟨L, hL⟩ : ∃ q, both (a.take i) b = q := ⟨_, rfl⟩
      have hLl : L.length ≤ 1001 * 1001 := by
        rw [← hL]
        have h1 := both_len (a.take i) b
        have h2 : (a.take i).length ≤ 1001 := by rw [List.length_take]; omega
        exact Nat.le_trans h1 (Nat.mul_le_mul h2 hlb)
      rw [hL] at HO HTK
      have i0' : (0 : Int) ≤ (i : Int) := by omega
      have i1' : (i : Int) < (a.length : Int) := by omega
      clear hL hx
      go_wp2
      go_loopw [5, 7] (fun ov kv wq => ∃ k : Nat, k ≤ b.length ∧ kv = .int .i64 k ∧ Hid (wq.ownsRow w.heap.size 47 2 ov (L ++ both1 x (b.take k)).length (sps (L ++ both1 x (b.take k)))) ∧ Below w.heap.size w wq) (fun _ kv _ => b.length - (intOf kv).toNat)
      case atStart => exact ⟨0, Nat.zero_le _, rfl, Lib.hid (by simpa [both1] using HO.out), hB⟩
      case round =>
        obtain ⟨k, hk, rfl, HO2, hB2⟩ := hrel
        by_cases hlk : k < b.length
        · obtain ⟨y, hy⟩ : ∃ x, b[k]? = some x := ⟨_, List.getElem?_eq_getElem hlk⟩
          have HY := Lib.hid hy
          have hsn : both1 x (b.take (k + 1)) = both1 x (b.take k) ++ if max x.1 y.1 < min x.2 y.2 then [(max x.1 y.1, min x.2 y.2)] else [] := by
            rw [List.take_add_one, hy]
            exact both1_snoc _ _ _
          have hM : (L ++ both1 x (b.take k)).length ≤ 1001 * 1001 + 1001 := by
            rw [List.length_append]
            have := both1_len x (b.take k)
            rw [List.length_take] at this
            omega
          obtain ⟨M, hMe⟩ : ∃ q, L ++ both1 x (b.take k) = q := ⟨_, rfl⟩
          have hsn2 : L ++ both1 x (b.take (k + 1)) = M ++ if max x.1 y.1 < min x.2 y.2 then [(max x.1 y.1, min x.2 y.2)] else [] := by rw [hsn, ← hMe, List.append_assoc]
          have HSN := Lib.hid hsn2
          rw [hMe] at HO2 hM
          obtain ⟨ab, ao, rfl, habn, hacell⟩ := HA4.out (by omega)
          obtain ⟨bb, bo, rfl, hbbn, hbcell⟩ := HB4.out (by omega)
          have p0 : wr.cell? ⟨ab, ao + i * 2, none⟩ = some (.int .i64 x.1) := (hB2.cell (p := ⟨ab, ao + i * 2, none⟩) habn).trans (sp0 hacell HX.out)
          have p1 : wr.cell? ⟨ab, ao + i * 2 + 1, none⟩ = some (.int .i64 x.2) := (hB2.cell (p := ⟨ab, ao + i * 2 + 1, none⟩) habn).trans (sp1 hacell HX.out)
          have r0 : wr.cell? ⟨bb, bo + k * 2, none⟩ = some (.int .i64 y.1) := (hB2.cell (p := ⟨bb, bo + k * 2, none⟩) hbbn).trans (sp0 hbcell hy)
          have r1 : wr.cell? ⟨bb, bo + k * 2 + 1, none⟩ = some (.int .i64 y.2) := (hB2.cell (p := ⟨bb, bo + k * 2 + 1, none⟩) hbbn).trans (sp1 hbcell hy)
          have za : ab < wr.heap.size := by have := hB2.size; omega
          have zb : bb < wr.heap.size := by have := hB2.size; omega
          have k0' : (0 : Int) ≤ (k : Int) := by omega
          have k1' : (k : Int) < (b.length : Int) := by omega
          obtain ⟨va, vc, rfl⟩ := own_shape HO2.out
          obtain ⟨s, hs⟩ : ∃ s : Sp, ((if x.1 < y.1 then y.1 else x.1), (if y.2 < x.2 then y.2 else x.2)) = s := ⟨_, rfl⟩
          have hs1 : s = (max x.1 y.1, min x.2 y.2) := by rw [← hs, mxI, mnI]
          have hs0 : (max x.1 y.1 < min x.2 y.2) ↔ s.1 < s.2 := by rw [hs1]
          have e1 : (if x.1 < y.1 then y.1 else x.1) = s.1 := by rw [← hs]
          have e2 : (if y.2 < x.2 then y.2 else x.2) = s.2 := by rw [← hs]
          have HE1 := Lib.hid e1
          have HE2 := Lib.hid e2
          have HSN2 : Hid (L ++ both1 x (b.take (k + 1)) = M ++ if s.1 < s.2 then [s] else []) := Lib.hid (by
            rw [HSN.out]
            by_cases z : s.1 < s.2
            · rw [if_pos z, if_pos (hs0.2 z), hs1]
            · rw [if_neg z, if_neg (fun h => z (hs0.1 h))])
          clear hy hsn hsn2 hMe hacell hbcell hs hs1 hs0 e1 e2 HSN
          by_cases z : s.1 < s.2
          · have dz : decide (s.1 < s.2) = true := decide_eq_true z
            have HN := Lib.hid (HSN2.out.trans (by rw [if_pos z]))
            clear z HSN2
            go_upto_region 8 with fail
            refine wp_region_plan (fun V => Below (wr).heap.size (wr) V) [0, 0, 0, 0, 1, 0, 0, 0, 0, 1, 0, 0, 0, 0, 0, 1, 0, 0, 0, 0, 1, 0, 0, 2, 3] [0, 1, 2, 3, 4, 5, 6, 7, 8, 9, 10, 11, 12, 13, 14, 15, 16, 17, 18, 19, 20, 21, 22, 23, 24] (by kernel_rfl) (by kernel_rfl) ?_ ?_
            case refine_1 => exact belowA
            (iterate 23 (first | (refine plan_held rfl (by decide) (by rfl) (fun w1 hS => by (try (obtain ⟨_, _⟩ := bcell (hS rfl))); go_simp; rfl) ?_; simp only [Act.put, List.setIfInBounds_toArray, List.set_cons_zero, List.set_cons_succ]) | (refine plan_skip rfl (by decide) (by rfl) ?_; simp only [Act.put, List.setIfInBounds_toArray, List.set_cons_zero, List.set_cons_succ])))
            (refine plan_keep rfl rfl (by rfl) (fun K hK => ?_); go_simp)
            (refine hK _ _ (by exact belowA) ?_; clear hK K; (try simp only [Act.put, List.setIfInBounds_toArray, List.set_cons_zero, List.set_cons_succ]))
            (refine plan_late rfl rfl (by rfl) (fun K hK => ?_); go_simp)
            (refine hK _ _ ?_; clear hK K; (try simp only [Act.put, List.setIfInBounds_toArray, List.set_cons_zero, List.set_cons_succ]))
            refine plan_done ?_
            go_upto_region 9 with fail
            simp only [HE1.out, HE2.out]
            have hb5 : Below wr.heap.size wr (wr.alloc (.cells #[.int .i64 s.1, .int .i64 s.2] 47)) := balloc0 (Below.refl _ _)
            have hn5 : (wr.alloc (.cells #[.int .i64 s.1, .int .i64 s.2] 47)).heap[wr.heap.size]? = some (.cells #[.int .i64 s.1, .int .i64 s.2] 47 (0, 0)) := heap_new
            generalize wr.alloc (.cells _ 47) = w5 at *
            have cx := fun q => cellB hn5 q
            have hB5 : Below w.heap.size w w5 := btrans0 hB2 hb5
            have HO5 : Hid (w5.ownsRow w.heap.size 47 2 (.slice va M.length vc) M.length (sps M)) := Lib.hid (own_kept1 HO2.out fun q hq => hb5.block q (HO2.out.lt q hq).2)
            have hs5 := hb5.size
            clear hn5
            go_wp2_with (at_builtin; refine wpList_append_F _ rfl _ _ _ rfl w.heap.size 47 i0 _ 2 16 Try.underlying29 hin hz0 hz1 hz2 rfl (by omega) (.slice va M.length vc) M.length (sps M) rfl (own_kept1 HO5.out (fun q hq => Below.heap_alloc _ _ _ (HO5.out.lt q hq).2)) ⟨w5.heap.size, 0, none⟩ 1 1 (spC s) rfl rfl (news_one heap_new) (by simp [spC, Value.oneCell']) (by simp only [maxLen]; omega) (by omega) (by simp; have := hB5.size; omega) (by omega) ?_; intro vo w9 ho9 hg9 hf9)
            have HO9 : Hid (w9.ownsRow w.heap.size 47 2 vo (L ++ both1 x (b.take (k + 1))).length (sps (L ++ both1 x (b.take (k + 1))))) := Lib.hid (by
              rw [HN.out, sps_append, List.length_append]
              simpa [sps] using ho9)
            have hB9 : Below w.heap.size w w9 := Below.grown (by exact belowA) hg9 (by simp; have := hB5.size; omega) (fun q hq => (HO5.out.lt q hq).1)
            clear ho9 hg9 hf9
            go_wp2
            go_roundw
            case rel => exact ⟨k + 1, by omega, by go_num, HO9, hB9⟩
            case measure => simp [intOf]; omega
          · have dz : decide (s.1 < s.2) = false := decide_eq_false z
            have HN := Lib.hid (HSN2.out.trans (by rw [if_neg z, List.append_nil]))
            clear z HSN2
            go_upto_region 8 with fail
            refine wp_region_plan (fun V => Below (wr).heap.size (wr) V) [0, 0, 0, 0, 1, 0, 0, 0, 0, 1, 0, 0, 0, 0, 0, 1, 0, 0, 0, 0, 1, 0, 0, 2, 3] [0, 1, 2, 3, 4, 5, 6, 7, 8, 9, 10, 11, 12, 13, 14, 15, 16, 17, 18, 19, 20, 21, 22, 23, 24] (by kernel_rfl) (by kernel_rfl) ?_ ?_
            case refine_1 => exact belowA
            (iterate 23 (first | (refine plan_held rfl (by decide) (by rfl) (fun w1 hS => by (try (obtain ⟨_, _⟩ := bcell (hS rfl))); go_simp; rfl) ?_; simp only [Act.put, List.setIfInBounds_toArray, List.set_cons_zero, List.set_cons_succ]) | (refine plan_skip rfl (by decide) (by rfl) ?_; simp only [Act.put, List.setIfInBounds_toArray, List.set_cons_zero, List.set_cons_succ])))
            (refine plan_keep rfl rfl (by rfl) (fun K hK => ?_); go_simp)
            (refine hK _ _ (by exact belowA) ?_; clear hK K; (try simp only [Act.put, List.setIfInBounds_toArray, List.set_cons_zero, List.set_cons_succ]))
            (refine plan_late rfl rfl (by rfl) (fun K hK => ?_); go_simp)
            (refine hK _ _ ?_; clear hK K; (try simp only [Act.put, List.setIfInBounds_toArray, List.set_cons_zero, List.set_cons_succ]))
            refine plan_done ?_
            go_upto_region 9 with fail
            simp only [HE1.out, HE2.out]
            have hb5 : Below wr.heap.size wr (wr.alloc (.cells #[.int .i64 s.1, .int .i64 s.2] 47)) := balloc0 (Below.refl _ _)
            have hn5 : (wr.alloc (.cells #[.int .i64 s.1, .int .i64 s.2] 47)).heap[wr.heap.size]? = some (.cells #[.int .i64 s.1, .int .i64 s.2] 47 (0, 0)) := heap_new
            generalize wr.alloc (.cells _ 47) = w5 at *
            have cx := fun q => cellB hn5 q
            have hB5 : Below w.heap.size w w5 := btrans0 hB2 hb5
            have HO5 : Hid (w5.ownsRow w.heap.size 47 2 (.slice va M.length vc) M.length (sps M)) := Lib.hid (own_kept1 HO2.out fun q hq => hb5.block q (HO2.out.lt q hq).2)
            have hs5 := hb5.size
            clear hn5
            go_wp2
            go_roundw
            case rel => exact ⟨k + 1, by omega, by go_num, Lib.hid (by rw [HN.out]; exact HO5.out), belowA⟩
            case measure => simp [intOf]; omega
        · obtain rfl : k = b.length := by omega
          have HO3 := HO2.out
          rw [List.take_length, ← HTK.out] at HO3
          have HO4 := Lib.hid HO3
          clear HO3
          go_wp2
          go_roundw
          case rel => exact ⟨i + 1, by omega, by go_num, HO4, hB2⟩
          case measure => simp [intOf]; omega
    · obtain rfl : i = a.length := by omega
      have HO3 := HO.out
      rw [List.take_length] at HO3
      have HR := Lib.hid (RSps.of_own HO3)
      obtain ⟨ra, rc, rfl, _⟩ := id HR.out
      clear HO3 HO
      go_wp2
      go_ret
      exact ⟨_, rfl, HR.out, hB⟩
set_option maxRecDepth 100000 in
set_option maxHeartbeats 16000000 in
theorem routside_any (l : List Sp) (v : Value) (w : World) (h : RSps w w.heap.size v l) (hl : l.length ≤ 1000) :
    Calls Try.prog 88 #[v] w fun e w' => ∃ r, e = .returned r ∧ RSps w' w'.heap.size r (outs 1152921504606846976 (-1152921504606846976) l) ∧ Below w.heap.size w w' := by
  obtain ⟨a, c, rfl, h1, h2, h3, h4⟩ := h
  unfold maxLen at h2
  have hlen : l.length ≤ 9223372036854775807 := by omega
  have H4 := Lib.hid h4
  clear h3 h4
  obtain ⟨i0, hin, hz0, hz1, hz2⟩ := info_parts infoSpan
  go_enter Try.func88, Try.ntmps88
  go_wp2
  go_loopw [3, 4, 5] (fun ov fv iv wr => ∃ (k : Nat) (f : Int) (L : List Sp), k ≤ l.length ∧ iv = .int .i64 k ∧ fv = .int .i64 f ∧ L.length ≤ k ∧ Hid (L ++ outs 1152921504606846976 f (l.drop k) = outs 1152921504606846976 (-1152921504606846976) l) ∧ Hid (wr.ownsRow w.heap.size 47 2 ov L.length (sps L)) ∧ Below w.heap.size w wr) (fun _ _ iv _ => l.length - (intOf iv).toNat)
  case atStart =>
    refine ⟨0, _, [], Nat.zero_le _, rfl, rfl, Nat.le_refl _, Lib.hid (by simp), Lib.hid ?_, belowA⟩
    exact World.ownsRow_made (base := w.heap.size) (e := 47) (size := 2) w #[] 0 (Nat.le_refl _) (by simp) rfl
  case round =>
    obtain ⟨k, f, L, hk, rfl, rfl, hLk, HOU, HO, hB⟩ := hrel
    obtain ⟨va, vc, rfl⟩ := own_shape HO.out
    by_cases hlt : k < l.length
    · skip
      obtain ⟨bb, o, rfl, hbn, hcell⟩ := H4.out (by omega)
      obtain ⟨x, hx⟩ : ∃ x, l[k]? = some x := ⟨_, List.getElem?_eq_getElem (by omega)⟩
      have q0 : wr.cell? ⟨bb, o + k * 2, none⟩ = some (.int .i64 x.1) := (hB.cell (p := ⟨bb, o + k * 2, none⟩) hbn).trans (sp0 hcell hx)
      have q1 : wr.cell? ⟨bb, o + k * 2 + 1, none⟩ = some (.int .i64 x.2) := (hB.cell (p := ⟨bb, o + k * 2 + 1, none⟩) hbn).trans (sp1 hcell hx)
      have k0 : (0 : Int) ≤ (k : Int) := by omega
      have k1 : (k : Int) < (l.length : Int) := by omega
      have HX := Lib.hid hx
      clear hx
      clear hcell
      have hat : outs 1152921504606846976 f (l.drop k) = if f < x.1 then (f, x.1) :: outs 1152921504606846976 x.2 (l.drop (k + 1)) else outs 1152921504606846976 x.2 (l.drop (k + 1)) := by
        have hx := HX.out
        rw [List.drop_eq_getElem_cons hlt]
        rw [List.getElem?_eq_getElem hlt] at hx
        rw [Option.some.inj hx]
        rfl
      by_cases z : f < x.1
      · have dz : decide (f < x.1) = true := decide_eq_true z
        have HN : Hid (L ++ [(f, x.1)] ++ outs 1152921504606846976 x.2 (l.drop (k + 1)) = outs 1152921504606846976 (-1152921504606846976) l) := Lib.hid (by rw [← HOU.out, hat, if_pos z]; simp)
        clear z hat
        go_wp2_with (at_builtin; refine wpList_append_F _ rfl _ _ _ rfl w.heap.size 47 i0 _ 2 16 Try.underlying29 hin hz0 hz1 hz2 rfl (by omega) (.slice va L.length vc) L.length (sps L) rfl (own_kept1 HO.out (fun q hq => Below.heap_alloc _ _ _ (HO.out.lt q hq).2)) ⟨wr.heap.size, 0, none⟩ 1 1 (spC (f, x.1)) rfl rfl (news_one heap_new) (by simp [spC, Value.oneCell']) (by simp only [maxLen]; omega) (by omega) (by simp; have := hB.size; omega) (by omega) ?_; intro vo w9 ho9 hg9 hf9; have hB9 : Below w.heap.size w w9 := Below.grown (by exact belowA) hg9 (by simp; have := hB.size; omega) (fun q hq => (HO.out.lt q hq).1); have r1 : w9.cell? ⟨bb, o + k * 2 + 1, none⟩ = some (.int .i64 x.2) := (hB9.cell (p := ⟨bb, o + k * 2 + 1, none⟩) hbn).trans ((hB.cell (p := ⟨bb, o + k * 2 + 1, none⟩) hbn).symm.trans q1))
        have HO9 : Hid (w9.ownsRow w.heap.size 47 2 vo (L ++ [(f, x.1)]).length (sps (L ++ [(f, x.1)]))) := Lib.hid (by
          rw [sps_append, List.length_append]
          simpa [sps] using ho9)
        have HB9 := Lib.hid hB9
        obtain ⟨vb, vd, rfl⟩ := own_shape HO9.out
        clear ho9 hg9 hf9 q0 q1 hB9 hB
        go_wp2
        go_roundw
        case rel => exact ⟨k + 1, x.2, L ++ [(f, x.1)], by omega, by go_num, rfl, by simp; omega, HN, HO9, HB9.out⟩
        case measure => simp [intOf]; omega
      · have dz : decide (f < x.1) = false := decide_eq_false z
        have HN : Hid (L ++ outs 1152921504606846976 x.2 (l.drop (k + 1)) = outs 1152921504606846976 (-1152921504606846976) l) := Lib.hid (by rw [← HOU.out, hat, if_neg z])
        clear z hat
        go_wp2
        go_roundw
        case rel => exact ⟨k + 1, x.2, L, by omega, by go_num, rfl, by omega, HN, HO, belowA⟩
        case measure => simp [intOf]; omega
    · obtain rfl : k = l.length := by omega
      have hou := HOU.out
      rw [List.drop_length] at hou
      by_cases z : f < 1152921504606846976
      · have dz : decide (f < 1152921504606846976) = true := decide_eq_true z
        have HN : Hid (L ++ [(f, 1152921504606846976)] = outs 1152921504606846976 (-1152921504606846976) l) := Lib.hid (by rw [← hou]; unfold outs; rw [if_pos z])
        clear z hou HOU
        go_wp2_with (at_builtin; refine wpList_append_F _ rfl _ _ _ rfl w.heap.size 47 i0 _ 2 16 Try.underlying29 hin hz0 hz1 hz2 rfl (by omega) (.slice va L.length vc) L.length (sps L) rfl (own_kept1 HO.out (fun q hq => Below.heap_alloc _ _ _ (HO.out.lt q hq).2)) ⟨wr.heap.size, 0, none⟩ 1 1 (spC (f, 1152921504606846976)) rfl rfl (news_one heap_new) (by simp [spC, Value.oneCell']) (by simp only [maxLen]; omega) (by omega) (by simp; have := hB.size; omega) (by omega) ?_; intro vo w9 ho9 hg9 hf9)
        have hR9 : RSps w9 w9.heap.size vo (outs 1152921504606846976 (-1152921504606846976) l) := by
          rw [← HN.out]
          refine RSps.of_own (base := w.heap.size) (n := L.length + 1) (e := 47) ?_
          rw [sps_append]
          simpa [sps] using ho9
        have hB9 : Below w.heap.size w w9 := Below.grown (by exact belowA) hg9 (by simp; have := hB.size; omega) (fun q hq => (HO.out.lt q hq).1)
        have HR9 := Lib.hid hR9
        obtain ⟨ra, rc, rfl, _⟩ := id hR9
        clear ho9 hg9 hf9 hR9
        go_wp2
        go_ret
        exact ⟨_, rfl, HR9.out, hB9⟩
      · have dz : decide (f < 1152921504606846976) = false := decide_eq_false z
        have hR9 : RSps wr wr.heap.size (.slice va L.length vc) (outs 1152921504606846976 (-1152921504606846976) l) := by
          rw [← hou]; unfold outs; rw [if_neg z, List.append_nil]
          exact RSps.of_own HO.out
        have HR9 := Lib.hid hR9
        clear z hou HOU hR9
        go_wp2
        go_ret
        exact ⟨_, rfl, HR9.out, hB⟩
/-- what the reference's Minus answers -/
def minS (a b : List Sp) : List Sp × Int := limS (both a (outs 1152921504606846976 (-1152921504606846976) b))
theorem outs_len (m : Int) : ∀ (l : List Sp) (f : Int), (outs m f l).length ≤ l.length + 1
  | [], f => by unfold outs; split <;> simp
  | x :: r, f => by
    have := outs_len m r x.2
    unfold outs
    split
    · simp; omega
    · simp; omega
set_option maxRecDepth 100000 in
set_option maxHeartbeats 16000000 in
theorem rminus_any (a b : List Sp) (u v : Value) (w : World) (ha : RSps w w.heap.size u a) (hb : RSps w w.heap.size v b) (hca : chkSp a = 0) (hcb : chkSp b = 0) :
    Calls Try.prog 56 #[u, v] w (SpsPost (minS a b) w) := by
  have HA := Lib.hid ha
  have HB := Lib.hid hb
  have hla := (chkSp_zero hca).1
  have hlb := (chkSp_zero hcb).1
  have HCA := Lib.hid hca
  have HCB := Lib.hid hcb
  obtain ⟨aa, ac, rfl, _⟩ := ha
  obtain ⟨ba, bc, rfl, _⟩ := hb
  clear hca hcb
  go_enter Try.func56, Try.ntmps56
  go_wp2_with fail
  refine (rbad_any a b _ _ _ HA.out HB.out).mono ?_
  rw [HCA.out, HCB.out]
  rintro e w1 ⟨rfl, hb1⟩
  have hs1 := hb1.size
  go_wp2_with fail
  refine (routside_any b _ _ (HB.out.below' hb1) hlb).mono ?_
  rintro e w2 ⟨r, rfl, hr2, hb2⟩
  have HB2 : Hid (Below w.heap.size w w2) := Lib.hid (btrans0 hb1 hb2)
  have HR2 := Lib.hid hr2
  have hol := outs_len 1152921504606846976 b (-1152921504606846976)
  obtain ⟨ra, rc, rfl, _⟩ := id hr2
  clear hr2 hb1 hb2
  go_wp2_with fail
  refine (rboth_any a _ _ _ _ (HA.out.below' HB2.out) HR2.out (by omega) (by omega)).mono ?_
  rintro e w3 ⟨r, rfl, hr3, hb3⟩
  have HB3 : Hid (Below w.heap.size w w3) := Lib.hid (btrans0 HB2.out hb3)
  have HR3 := Lib.hid hr3
  obtain ⟨sa, sc, rfl, _⟩ := id hr3
  clear hr3 hb3
  go_wp2_with fail
  refine (rlimited_any _ _ _ HR3.out).mono ?_
  rintro e w4 ⟨r, rfl, hr4, _, hb4⟩
  have HB4 : Hid (Below w.heap.size w w4) := Lib.hid (btrans0 HB3.out hb4)
  have HR4 := Lib.hid hr4
  obtain ⟨ta, tc, rfl, _⟩ := id hr4
  clear hr4 hb4
  go_wp2
  go_ret2
  exact ⟨_, rfl, HR4.out, HB4.out⟩
end Go.Proofs.Ytpnfkmlgelcbgaa
