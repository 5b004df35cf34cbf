/- Chapter 18: the reference of intervals: insert, Union. -/
import Derived.BigQuiet
import Derived.BigRegion
import Derived.Deep.DeepCutAuto
import Derived.Deep.CutBlock
import Derived.Laws.AppendOwn
import Derived.Test.YtpnfkmlgelcbgaaSc
import Derived.Test.YtpnfkmlgelcbgaaJk
set_option linter.unusedVariables false
set_option linter.unusedSimpArgs false
namespace Go.Proofs.Ytpnfkmlgelcbgaa
open Go Go.RowKit Iv
attribute [local go_sem] Oper.semAt_some
attribute [local go_sem] B_getElem B_size B_app B_extract B_get B_toList

def mrg : List Sp → Sp → List Sp
  | [], x => [x]
  | y :: r, x => if y.1 ≤ x.2 then mrg r (if y.1 < x.1 then y.1 else x.1, if x.2 < y.2 then y.2 else x.2) else x :: y :: r
def ins2 : List Sp → Sp → List Sp
  | [], x => [x]
  | y :: r, x => if y.2 < x.1 then y :: ins2 r x else mrg (y :: r) x
theorem mnI (a b : Int) : (if b < a then b else a) = min a b := by rw [Int.min_def]; split <;> split <;> omega
theorem mxI (a b : Int) : (if a < b then b else a) = max a b := by rw [Int.max_def]; split <;> split <;> omega
theorem mrg_ins : ∀ {l : List Sp} {x : Sp} {b : Int}, NF b l → (∀ y ∈ l, x.1 ≤ y.2) → mrg l x = ins l x
  | [], x, b, _, _ => rfl
  | y :: r, x, b, h, hx => by
    have h0 := hx y (by simp)
    unfold mrg ins
    rw [if_neg (show ¬ y.2 < x.1 by omega)]
    by_cases z : y.1 ≤ x.2
    · rw [if_pos z, if_pos z, mnI, mxI]
      refine mrg_ins h.2.2 (fun u hu => ?_)
      have := (h.2.2.lo u hu)
      show min x.1 y.1 ≤ u.2
      omega
    · rw [if_neg z, if_neg z]
theorem ins2_ins : ∀ {l : List Sp} {x : Sp} {b : Int}, NF b l → ins2 l x = ins l x
  | [], x, b, _ => rfl
  | y :: r, x, b, h => by
    by_cases z : y.2 < x.1
    · unfold ins2 ins
      rw [if_pos z, if_pos z, ins2_ins h.2.2]
    · unfold ins2
      rw [if_neg z]
      refine mrg_ins h (fun u hu => ?_)
      rcases List.mem_cons.1 hu with rfl | hu
      · omega
      · have := h.2.2.lo u hu; omega
theorem ins2_skip {x : Sp} : ∀ {l : List Sp} {k : Nat}, (∀ y ∈ l.take k, y.2 < x.1) → k ≤ l.length → ins2 l x = l.take k ++ ins2 (l.drop k) x
  | l, 0, _, _ => by simp
  | [], k + 1, _, h => by simp at h
  | y :: r, k + 1, h, hk => by
    have h0 := h y (by simp)
    have ih := ins2_skip (x := x) (l := r) (k := k) (fun z hz => h z (by simp [hz])) (by simpa using hk)
    rw [show ins2 (y :: r) x = y :: ins2 r x from if_pos h0, ih]
    simp
theorem ins2_at {x y : Sp} {l : List Sp} {k : Nat} (hy : l[k]? = some y) (h : ¬ y.2 < x.1) : ins2 (l.drop k) x = mrg (l.drop k) x := by
  have h1 : k < l.length := by
    rcases Nat.lt_or_ge k l.length with z | z
    · exact z
    · rw [List.getElem?_eq_none z] at hy; cases hy
  rw [List.drop_eq_getElem_cons h1]
  rw [List.getElem?_eq_getElem h1] at hy
  rw [Option.some.inj hy]
  exact if_neg h
theorem mrg_at {x y : Sp} {l : List Sp} {k : Nat} (hy : l[k]? = some y) : mrg (l.drop k) x = if y.1 ≤ x.2 then mrg (l.drop (k + 1)) (if y.1 < x.1 then y.1 else x.1, if x.2 < y.2 then y.2 else x.2) else x :: l.drop k := by
  have h1 : k < l.length := by
    rcases Nat.lt_or_ge k l.length with z | z
    · exact z
    · rw [List.getElem?_eq_none z] at hy; cases hy
  rw [List.drop_eq_getElem_cons h1]
  rw [List.getElem?_eq_getElem h1] at hy
  rw [Option.some.inj hy]
  rfl
theorem sps_append (a b : List Sp) : sps (a ++ b) = sps a ++ sps b := by unfold sps; rw [List.flatMap_append]
theorem sps_drop (l : List Sp) (k j : Nat) : (sps (l.drop k))[j]? = (sps l)[k * 2 + j]? := by
  have h : ∀ (l : List Sp) (k : Nat), sps (l.drop k) = (sps l).drop (k * 2) := by
    intro l
    induction l with
    | nil => intro k; simp [sps]
    | cons x r ih =>
      intro k
      cases k with
      | zero => simp
      | succ k =>
        rw [List.drop_succ_cons, ih k]
        show _ = (spC x ++ sps r).drop ((k + 1) * 2)
        rw [show (k + 1) * 2 = 2 + k * 2 by omega, ← List.drop_drop]
        rfl
  rw [h, List.getElem?_drop]

set_option maxRecDepth 100000 in
set_option maxHeartbeats 16000000 in
theorem rinsert_any (l : List Sp) (x : Sp) (v : Value) (w : World) (h : RSps w w.heap.size v l) (hl1 : 0 < l.length) (hl2 : l.length ≤ 2000) :
    Calls Try.prog 84 #[v, .agg #[.int .i64 x.1, .int .i64 x.2]] w fun e w' => ∃ u, e = .returned u ∧ RSps w' w'.heap.size u (ins2 l x) ∧ RFrom w.heap.size u ∧ Below w.heap.size w w' := by
  obtain ⟨a, c, rfl, h1, h2, h3, h4⟩ := h
  unfold maxLen at h2
  have hlen : l.length ≤ 9223372036854775807 := by omega
  have H4 := Lib.hid h4
  clear h3 h4
  obtain ⟨i0, hin, hz0, hz1, hz2⟩ := info_parts infoSpan
  go_enter Try.func84, Try.ntmps84
  go_wp2
  go_loopw [5, 6] (fun ov iv wr => ∃ k : Nat, k ≤ l.length ∧ iv = .int .i64 k ∧ Hid (∀ y ∈ l.take k, y.2 < x.1) ∧ Hid (wr.ownsRow (w.heap.size + 1) 47 2 ov k (sps (l.take k))) ∧ Hid (wr.heap[w.heap.size]? = some (.cells (spC x).toArray 47 (0, 0))) ∧ Below w.heap.size w wr ∧ w.heap.size < wr.heap.size) (fun _ iv _ => l.length - (intOf iv).toNat)
  case atStart =>
    refine ⟨0, Nat.zero_le _, rfl, Lib.hid (by simp), Lib.hid ?_, Lib.hid ?_, belowA, by simp; omega⟩
    · have := World.ownsRow_made (base := w.heap.size + 1) (e := 47) (size := 2) (w.alloc (.cells (spC x).toArray 47)) #[] 0 (by simp) (by simp) rfl
      simpa [sps, spC] using this
    · exact (Below.heap_alloc _ _ _ (by simp)).trans heap_new
  case round =>
    obtain ⟨k, hk, rfl, HV, HO, HX0, hB, hz⟩ := hrel
    have HX0' := HX0.out
    have cx := fun q => cellB HX0' q
    simp only [spC] at cx
    obtain ⟨va, vc, rfl⟩ := own_shape HO.out
    clear HX0'
    have hcase : (∃ y, l[k]? = some y ∧ y.2 < x.1) ∨ (ins2 (l.drop k) x = mrg (l.drop k) x ∧ (k = l.length ∨ ∃ y, l[k]? = some y ∧ ¬ y.2 < x.1)) := by
      by_cases hlt : k < l.length
      · obtain ⟨y, hy⟩ : ∃ y, l[k]? = some y := ⟨_, List.getElem?_eq_getElem hlt⟩
        by_cases z : y.2 < x.1
        · exact .inl ⟨y, hy, z⟩
        · exact .inr ⟨ins2_at hy z, .inr ⟨y, hy, z⟩⟩
      · have : k = l.length := by omega
        subst this
        exact .inr ⟨by rw [List.drop_length]; rfl, .inl rfl⟩
    rcases hcase with ⟨u, hy, z⟩ | ⟨hmr, hcase⟩
    · have hlt : k < l.length := by
        rcases Nat.lt_or_ge k l.length with z | z
        · exact z
        · rw [List.getElem?_eq_none z] at hy; cases hy
      have dl : decide ((k : Int) < (l.length : Int)) = true := decide_eq_true (by omega)
      obtain ⟨bb, o, rfl, hbn, hcell⟩ := H4.out (by omega)
      have q0 : wr.cell? ⟨bb, o + k * 2, none⟩ = some (.int .i64 u.1) := (hB.cell (p := ⟨bb, o + k * 2, none⟩) hbn).trans (sp0 hcell hy)
      have q1 : wr.cell? ⟨bb, o + k * 2 + 1, none⟩ = some (.int .i64 u.2) := (hB.cell (p := ⟨bb, o + k * 2 + 1, none⟩) hbn).trans (sp1 hcell hy)
      have k0 : (0 : Int) ≤ (k : Int) := by omega
      have k1 : (k : Int) < (l.length : Int) := by omega
      clear hcell
      have dz : decide (u.2 < x.1) = true := decide_eq_true z
      have HY := Lib.hid hy
      have HV2 : Hid (∀ y ∈ l.take (k + 1), y.2 < x.1) := Lib.hid (fun y hy => by
        rw [List.take_add_one, HY.out] at hy
        rcases List.mem_append.1 hy with hy | hy
        · exact HV.out y hy
        · simp at hy; subst hy; exact of_decide_eq_true dz)
      clear hy z
      go_upto_region 3 with fail
      go_quiet (fail)
      go_wp2_with (at_builtin; refine wpList_append_F _ rfl _ _ _ rfl (w.heap.size + 1) 47 i0 _ 2 16 Try.underlying29 hin hz0 hz1 hz2 rfl (by omega) (.slice va k vc) k (sps (l.take k)) rfl (own_kept1 HO.out (fun q hq => Below.heap_alloc _ _ _ (HO.out.lt q hq).2)) ⟨wr.heap.size, 0, none⟩ 1 1 (spC u) rfl rfl (news_one heap_new) (by simp [spC, Value.oneCell']) (by simp only [maxLen]; omega) (by omega) (by simp; omega) (by omega) ?_; intro vo w9 ho9 hg9 hf9)
      have hs9 := hg9.size
      have HO9 : Hid (w9.ownsRow (w.heap.size + 1) 47 2 vo (k + 1) (sps (l.take (k + 1)))) := Lib.hid (by
        rw [List.take_add_one, HY.out, sps_append]
        simpa [sps] using ho9)
      have HX9 : Hid (w9.heap[w.heap.size]? = some (.cells (spC x).toArray 47 (0, 0))) := Lib.hid ((grown_keep hg9 (by simp; omega) (fun e => by have := (HO.out.lt _ e).1; omega)).trans ((Below.heap_alloc _ _ _ (by simp; omega)).trans HX0.out))
      have hB9 : Below w.heap.size w w9 := Below.grown (by exact belowA) hg9 (by simp; omega) (fun q hq => by have := (HO.out.lt q hq).1; omega)
      simp at hs9
      clear ho9 hg9 hf9
      go_wp2
      go_roundw
      case rel => exact ⟨k + 1, by omega, by go_num, HV2, HO9, HX9, hB9, by omega⟩
      case measure => simp [intOf]; omega
    · have HM := Lib.hid hmr
      have HI : Hid (ins2 l x = l.take k ++ mrg (l.drop k) x) := Lib.hid (by rw [ins2_skip HV.out hk, hmr])
      clear hmr HM
      rcases hcase with rfl | ⟨u, hy, z⟩
      · have dl : decide ((l.length : Int) < (l.length : Int)) = false := by simp
        have HI2 : Hid (ins2 l x = l.take l.length ++ mrg (l.drop l.length) x) := HI
        go_upto_region 3 with fail
        go_quiet (fail)
        generalize hw5 : wr.drewN _ = w5 at *
        have hB5 : Below w.heap.size w w5 := by rw [← hw5]; exact belowA
        have HO5 : Hid (w5.ownsRow (w.heap.size + 1) 47 2 (.slice va l.length vc) l.length (sps (l.take l.length))) := Lib.hid (by rw [← hw5]; exact HO.out)
        have HX5 : Hid (w5.heap[w.heap.size]? = some (.cells (spC x).toArray 47 (0, 0))) := Lib.hid (by rw [← hw5]; exact HX0.out)
        have hz5 : w.heap.size < w5.heap.size := by rw [← hw5]; exact hz
        clear hw5 cx
        go_wp2
        go_loopw [6] (fun iv wq => ∃ (j : Nat) (y : Sp), l.length ≤ j ∧ j ≤ l.length ∧ iv = .int .i64 j ∧ Hid (mrg (l.drop l.length) x = mrg (l.drop j) y) ∧ Hid (wq.heap[w.heap.size]? = some (.cells (spC y).toArray 47 (0, 0))) ∧ Hid (wq.ownsRow (w.heap.size + 1) 47 2 (.slice va l.length vc) l.length (sps (l.take l.length))) ∧ Below w.heap.size w wq ∧ w.heap.size < wq.heap.size) (fun iv _ => l.length - (intOf iv).toNat)
        case atStart => exact ⟨l.length, x, Nat.le_refl _, by omega, rfl, Lib.hid rfl, HX5, HO5, hB5, hz5⟩
        case round =>
          obtain ⟨j, y, hkj, hj, rfl, HMR, HXQ, HOQ, hBQ, hzQ⟩ := hrel
          have HXQ' := HXQ.out
          have cx := fun q => cellB HXQ' q
          simp only [spC] at cx
          obtain ⟨bb, o, rfl, hbn, hcell⟩ := H4.out (by omega)
          have HC := Lib.hid hcell
          have hcase2 : (∃ u, l[j]? = some u ∧ u.1 ≤ y.2) ∨ (mrg (l.drop j) y = y :: l.drop j ∧ (j = l.length ∨ ∃ u, l[j]? = some u ∧ ¬ u.1 ≤ y.2)) := by
            by_cases hlt : j < l.length
            · obtain ⟨u, hu⟩ : ∃ y, l[j]? = some y := ⟨_, List.getElem?_eq_getElem hlt⟩
              have := mrg_at (x := y) hu
              by_cases z : u.1 ≤ y.2
              · exact .inl ⟨u, hu, z⟩
              · rw [if_neg z] at this
                exact .inr ⟨this, .inr ⟨u, hu, z⟩⟩
            · have : j = l.length := by omega
              subst this
              exact .inr ⟨by rw [List.drop_length]; rfl, .inl rfl⟩
          clear HXQ' hcell
          rcases hcase2 with ⟨u, hu, z⟩ | ⟨hmr2, hcase2⟩
          · have hlt : j < l.length := by
              rcases Nat.lt_or_ge j l.length with z | z
              · exact z
              · rw [List.getElem?_eq_none z] at hu; cases hu
            have dl : decide ((j : Int) < (l.length : Int)) = true := decide_eq_true (by omega)
            have dz : decide (u.1 ≤ y.2) = true := decide_eq_true z
            have q0 : wr.cell? ⟨bb, o + j * 2, none⟩ = some (.int .i64 u.1) := (hBQ.cell (p := ⟨bb, o + j * 2, none⟩) hbn).trans (sp0 HC.out hu)
            have q1 : wr.cell? ⟨bb, o + j * 2 + 1, none⟩ = some (.int .i64 u.2) := (hBQ.cell (p := ⟨bb, o + j * 2 + 1, none⟩) hbn).trans (sp1 HC.out hu)
            have j0 : (0 : Int) ≤ (j : Int) := by omega
            have j1 : (j : Int) < (l.length : Int) := by omega
            have HMR2 : Hid (mrg (l.drop l.length) x = mrg (l.drop (j + 1)) (if u.1 < y.1 then u.1 else y.1, if y.2 < u.2 then u.2 else y.2)) := Lib.hid (by rw [HMR.out, mrg_at hu, if_pos z])
            have zbb : bb < wr.heap.size := by have := hBQ.size; omega
            have hne : bb ≠ w.heap.size := by omega
            clear hu z
            go_upto_region 6 with fail
            go_quiet (fail)
            go_upto_region 7 with fail
            generalize hw6 : wr.drewN _ = w6 at *
            have hh6 : w6.heap = wr.heap := by rw [← hw6]; rfl
            have hc6 : ∀ p, w6.cell? p = wr.cell? p := fun p => by rw [← hw6]; rfl
            have hB6 : Below w.heap.size w w6 := by rw [← hw6]; exact belowA
            clear hw6
            refine wp_region_plan (fun V => (∀ q, V.cell? ⟨w.heap.size, q, none⟩ = #[Value.int .i64 y.1, .int .i64 y.2][q]?) ∧ V.cell? ⟨bb, o + j * 2, none⟩ = some (.int .i64 u.1) ∧ V.cell? ⟨bb, o + j * 2 + 1, none⟩ = some (.int .i64 u.2)) [0, 1, 0, 0, 0, 0, 1, 0, 0, 1, 0, 0, 0, 0, 1, 0, 0, 3] [0, 1, 2, 3, 4, 5, 6, 7, 8, 9, 10, 11, 12, 13, 14, 15, 16, 17] (by kernel_rfl) (by kernel_rfl) ?_ ?_
            case refine_1 => exact ⟨fun q => (hc6 _).trans (cx q), (hc6 _).trans q0, (hc6 _).trans q1⟩
            (iterate 17 (refine plan_held rfl (by decide) (by rfl) (fun w1 hS => by (try (have hS := hS rfl; obtain hS := hS; repeat (obtain ⟨_, hS⟩ := hS))); go_simp; rfl) ?_; simp only [Act.put, List.setIfInBounds_toArray, List.set_cons_zero, List.set_cons_succ]))
            have cx6 : ∀ q, w6.cell? ⟨w.heap.size, q, none⟩ = #[Value.int .i64 y.1, .int .i64 y.2][q]? := fun q => (hc6 _).trans (cx q)
            have fx6 : ∀ q, w6.frozen? ⟨w.heap.size, q, none⟩ = false := fun q => by unfold World.frozen?; rw [hh6]; exact frozenB HXQ.out q
            obtain ⟨m, hm⟩ : ∃ m : Sp, (if u.1 < y.1 then u.1 else y.1, if y.2 < u.2 then u.2 else y.2) = m := ⟨_, rfl⟩
            have e1 : (if u.1 < y.1 then u.1 else y.1) = m.1 := by rw [← hm]
            have e2 : (if y.2 < u.2 then u.2 else y.2) = m.2 := by rw [← hm]
            rw [hm] at HMR2
            rw [e1, e2]
            clear cx e1 e2 hm hc6
            (refine plan_late rfl rfl (by rfl) (fun K hK => ?_); go_simp)
            (refine hK _ _ ?_; clear hK K; (try simp only [Act.put, List.setIfInBounds_toArray, List.set_cons_zero, List.set_cons_succ]))
            refine plan_done ?_
            go_wp2
            have HX6 : w6.heap[w.heap.size]? = some (.cells (spC y).toArray 47 (0, 0)) := by rw [hh6]; exact HXQ.out
            have HO6 : w6.ownsRow (w.heap.size + 1) 47 2 (.slice va l.length vc) l.length (sps (l.take l.length)) := own_kept1 HOQ.out fun q hq => by rw [hh6]
            have hz6 : w.heap.size < w6.heap.size := by rw [hh6]; exact hzQ
            refine ⟨⟨j + 1, m, by omega, by omega, by go_num, HMR2, Lib.hid ?_, Lib.hid ?_, ?_, ?_⟩, by simp [intOf]; omega⟩
            · exact setB (setB HX6 0 (.int .i64 m.1)) 1 (.int .i64 m.2)
            · refine own_kept1 HO6 fun q hq => ?_
              have hq1 := (HO6.lt q hq).1
              exact (heap_setCell_other _ ⟨w.heap.size, 1, none⟩ q _ (by show q ≠ w.heap.size; omega)).trans (heap_setCell_other _ ⟨w.heap.size, 0, none⟩ q _ (by show q ≠ w.heap.size; omega))
            · exact bdrew (bset (bset hB6 (Nat.le_refl _)) (Nat.le_refl _))
            · simp; omega
          · have HFIN : Hid (ins2 l x = l.take l.length ++ (y :: l.drop j)) := Lib.hid (by rw [HI.out, HMR.out, hmr2])
            clear hmr2
            rcases hcase2 with hjl | ⟨u, hu, z⟩
            · have dl : decide ((j : Int) < (l.length : Int)) = false := decide_eq_false (by omega)
              go_upto_region 6 with fail
              go_quiet (fail)
              (try clear hjl)
              generalize hw7 : wr.drewN _ = w7 at *
              have hh7 : w7.heap = wr.heap := by rw [← hw7]; rfl
              have hB7 : Below w.heap.size w w7 := by rw [← hw7]; exact belowA
              clear hw7 cx
              have HX7 : Hid (w7.heap[w.heap.size]? = some (.cells (spC y).toArray 47 (0, 0))) := Lib.hid (by rw [hh7]; exact HXQ.out)
              have HO7 : Hid (w7.ownsRow (w.heap.size + 1) 47 2 (.slice va l.length vc) l.length (sps (l.take l.length))) := Lib.hid (own_kept1 HOQ.out fun q hq => by rw [hh7])
              have hz7 : w.heap.size < w7.heap.size := by rw [hh7]; exact hzQ
              have HX7' := HX7.out
              have cx := fun q => cellB HX7' q
              simp only [spC] at cx
              have j0' : (0 : Int) ≤ (j : Int) := by omega
              have j1' : (j : Int) ≤ (l.length : Int) := by omega
              have h1' : (l.length : Int) ≤ (c : Int) := by omega
              clear HX7' hh7
              go_upto_region 9 with fail
              refine wp_region_plan (fun V => ∀ q, V.cell? ⟨w.heap.size, q, none⟩ = #[Value.int .i64 y.1, .int .i64 y.2][q]?) [0, 1, 3, 3, 0, 0, 0, 3, 0] [0, 1, 4, 5, 6, 2, 3, 7, 8] (by kernel_rfl) (by kernel_rfl) ?_ ?_
              case refine_1 => exact cx
              (iterate 5 (refine plan_held rfl (by decide) (by rfl) (fun w1 hS => by (try (have hS := hS rfl; obtain hS := hS; repeat (obtain ⟨_, hS⟩ := hS))); go_simp; rfl) ?_; simp only [Act.put, List.setIfInBounds_toArray, List.set_cons_zero, List.set_cons_succ]))
              clear cx
              (refine plan_late rfl rfl (by rfl) (fun K hK => ?_); go_simp)
              (refine hK _ _ ?_; clear hK K; (try simp only [Act.put, List.setIfInBounds_toArray, List.set_cons_zero, List.set_cons_succ]))
              refine plan_late rfl rfl (by rfl) (fun K hK => ?_)
              refine wp_append_F _ _ _ _ rfl (w.heap.size + 1) 47 i0 _ 2 16 Try.underlying29 hin hz0 hz1 hz2 rfl (by omega) (.slice va l.length vc) l.length (sps (l.take l.length)) rfl (own_kept1 HO7.out (fun q hq => Below.heap_alloc _ _ _ (HO7.out.lt q hq).2)) ⟨w7.heap.size, 0, none⟩ 1 1 (spC y) rfl rfl (news_one heap_new) (by simp [spC, Value.oneCell']) (by simp only [maxLen]; omega) (by omega) (by simp; omega) (by omega) ?_
              intro x' w8 ho8 hg8 hf8
              obtain ⟨ax', cx', rfl⟩ := own_shape ho8
              have hs8 := hg8.size
              have hB8 : Below w.heap.size w w8 := Below.grown (by exact belowA) hg8 (by simp; omega) (fun q hq => by have := (HO7.out.lt q hq).1; omega)
              have HO8 := Lib.hid ho8
              simp at hs8
              clear ho8 hg8 hf8
              (refine hK _ _ ?_; clear hK K; (try simp only [Act.put, List.setIfInBounds_toArray, List.set_cons_zero, List.set_cons_succ]))
              refine plan_late rfl rfl (by rfl) (fun K hK => ?_)
              obtain ⟨ad, had, hadn⟩ : ∃ ad : Addr, (if c = j then some (⟨bb, o, none⟩ : Addr) else some ⟨bb, o + j * 2, none⟩) = some ad ∧ (c ≠ j → ad = ⟨bb, o + j * 2, none⟩) := by
                by_cases z : c = j
                · exact ⟨_, if_pos z, fun h => absurd z h⟩
                · exact ⟨_, if_neg z, fun _ => rfl⟩
              have hnews : ∀ q u, (sps (l.drop j))[q]? = some u → w8.cell? (ad.add q) = some u := fun q u hu => by
                have hcj : c ≠ j := fun e => by
                  have : l.drop j = [] := List.drop_eq_nil_iff.2 (by omega)
                  rw [this] at hu
                  simp [sps] at hu
                rw [hadn hcj, addN]
                refine (hB8.cell (p := ⟨bb, o + j * 2 + q, none⟩) hbn).trans ?_
                rw [sps_drop] at hu
                rw [Nat.add_assoc]
                exact HC.out _ u hu
              refine wp_append_own _ _ _ _ rfl (w.heap.size + 1) 47 i0 _ 2 16 Try.underlying29 hin hz0 hz1 hz2 rfl (by omega) (.slice ax' (l.length + 1) cx') (l.length + 1) (sps (l.take l.length) ++ spC y) rfl HO8.out ad (l.length - j) (c - j) (sps (l.drop j)) (by first | (show Value.slice (if c = j then some (⟨bb, o, none⟩ : Addr) else some ⟨bb, o + j * 2, none⟩) (l.length - j) (c - j) = _; rw [had]) | (show Value.slice (if c = j then some (⟨bb, o, none⟩ : Addr) else some ⟨bb, o + j * 2, none⟩) 0 (c - j) = _; rw [had, show l.length - j = 0 by omega])) (by rw [sps_len, List.length_drop]) hnews (sps_one _) (by simp only [maxLen]; omega) (by omega) (by omega) ?_
              intro x9 w9 ho9 hg9 _
              have hB9 : Below w.heap.size w w9 := hB8.grown hg9 (by omega) (fun q hq => by have := (HO8.out.lt q hq).1; omega)
              have HR9 : Hid (RSps w9 w9.heap.size x9 (ins2 l x)) := Lib.hid (by
                rw [HFIN.out]
                refine RSps.of_own (base := w.heap.size + 1) (n := l.length + 1 + (l.length - j)) (e := 47) ?_
                rw [sps_append]
                have : sps (y :: l.drop j) = spC y ++ sps (l.drop j) := by simp [sps]
                rw [this, ← List.append_assoc]
                exact ho9)
              obtain ⟨a9, c9, rfl, _⟩ := id HR9.out
              have HF9 : Hid (RFrom w.heap.size _) := Lib.hid ((own_from ho9).le (Nat.le_succ _))
              clear ho9 hg9
              (refine hK _ _ ?_; clear hK K; (try simp only [Act.put, List.setIfInBounds_toArray, List.set_cons_zero, List.set_cons_succ]))
              (iterate 1 (refine plan_held rfl (by decide) (by rfl) (fun w1 hS => by (try (have hS := hS rfl; obtain hS := hS; repeat (obtain ⟨_, hS⟩ := hS))); go_simp; rfl) ?_; simp only [Act.put, List.setIfInBounds_toArray, List.set_cons_zero, List.set_cons_succ]))
              refine plan_done ?_
              go_wp2
              all_goals (go_ret; exact ⟨_, rfl, HR9.out, HF9.out, belowA⟩)
            · skip
              exfalso
              have hlt : j < l.length := by
                rcases Nat.lt_or_ge j l.length with z | z
                · exact z
                · rw [List.getElem?_eq_none z] at hu; cases hu
              omega
      · have hlt : k < l.length := by
          rcases Nat.lt_or_ge k l.length with z | z
          · exact z
          · rw [List.getElem?_eq_none z] at hy; cases hy
        have dl : decide ((k : Int) < (l.length : Int)) = true := decide_eq_true (by omega)
        obtain ⟨bb, o, rfl, hbn, hcell⟩ := H4.out (by omega)
        have q0 : wr.cell? ⟨bb, o + k * 2, none⟩ = some (.int .i64 u.1) := (hB.cell (p := ⟨bb, o + k * 2, none⟩) hbn).trans (sp0 hcell hy)
        have q1 : wr.cell? ⟨bb, o + k * 2 + 1, none⟩ = some (.int .i64 u.2) := (hB.cell (p := ⟨bb, o + k * 2 + 1, none⟩) hbn).trans (sp1 hcell hy)
        have k0 : (0 : Int) ≤ (k : Int) := by omega
        have k1 : (k : Int) < (l.length : Int) := by omega
        clear hcell
        have dz : decide (u.2 < x.1) = false := decide_eq_false z
        clear hy z
        go_upto_region 3 with fail
        go_quiet (fail)
        generalize hw5 : wr.drewN _ = w5 at *
        have hB5 : Below w.heap.size w w5 := by rw [← hw5]; exact belowA
        have HO5 : Hid (w5.ownsRow (w.heap.size + 1) 47 2 (.slice va k vc) k (sps (l.take k))) := Lib.hid (by rw [← hw5]; exact HO.out)
        have HX5 : Hid (w5.heap[w.heap.size]? = some (.cells (spC x).toArray 47 (0, 0))) := Lib.hid (by rw [← hw5]; exact HX0.out)
        have hz5 : w.heap.size < w5.heap.size := by rw [← hw5]; exact hz
        clear hw5 cx
        go_wp2
        go_loopw [6] (fun iv wq => ∃ (j : Nat) (y : Sp), k ≤ j ∧ j ≤ l.length ∧ iv = .int .i64 j ∧ Hid (mrg (l.drop k) x = mrg (l.drop j) y) ∧ Hid (wq.heap[w.heap.size]? = some (.cells (spC y).toArray 47 (0, 0))) ∧ Hid (wq.ownsRow (w.heap.size + 1) 47 2 (.slice va k vc) k (sps (l.take k))) ∧ Below w.heap.size w wq ∧ w.heap.size < wq.heap.size) (fun iv _ => l.length - (intOf iv).toNat)
        case atStart => exact ⟨k, x, Nat.le_refl _, by omega, rfl, Lib.hid rfl, HX5, HO5, hB5, hz5⟩
        case round =>
          obtain ⟨j, y, hkj, hj, rfl, HMR, HXQ, HOQ, hBQ, hzQ⟩ := hrel
          have HXQ' := HXQ.out
          have cx := fun q => cellB HXQ' q
          simp only [spC] at cx
          obtain ⟨b2, o2, e2, hbn2, hcell⟩ := H4.out (by omega)
          obtain ⟨rfl, rfl⟩ : bb = b2 ∧ o = o2 := by injection e2 with e2; injection e2 with e2 e3 _; exact ⟨e2, e3⟩
          clear e2
          have HC := Lib.hid hcell
          have hcase2 : (∃ u, l[j]? = some u ∧ u.1 ≤ y.2) ∨ (mrg (l.drop j) y = y :: l.drop j ∧ (j = l.length ∨ ∃ u, l[j]? = some u ∧ ¬ u.1 ≤ y.2)) := by
            by_cases hlt : j < l.length
            · obtain ⟨u, hu⟩ : ∃ y, l[j]? = some y := ⟨_, List.getElem?_eq_getElem hlt⟩
              have := mrg_at (x := y) hu
              by_cases z : u.1 ≤ y.2
              · exact .inl ⟨u, hu, z⟩
              · rw [if_neg z] at this
                exact .inr ⟨this, .inr ⟨u, hu, z⟩⟩
            · have : j = l.length := by omega
              subst this
              exact .inr ⟨by rw [List.drop_length]; rfl, .inl rfl⟩
          clear HXQ' hcell
          rcases hcase2 with ⟨u, hu, z⟩ | ⟨hmr2, hcase2⟩
          · have hlt : j < l.length := by
              rcases Nat.lt_or_ge j l.length with z | z
              · exact z
              · rw [List.getElem?_eq_none z] at hu; cases hu
            have dl : decide ((j : Int) < (l.length : Int)) = true := decide_eq_true (by omega)
            have dz : decide (u.1 ≤ y.2) = true := decide_eq_true z
            have q0 : wr.cell? ⟨bb, o + j * 2, none⟩ = some (.int .i64 u.1) := (hBQ.cell (p := ⟨bb, o + j * 2, none⟩) hbn).trans (sp0 HC.out hu)
            have q1 : wr.cell? ⟨bb, o + j * 2 + 1, none⟩ = some (.int .i64 u.2) := (hBQ.cell (p := ⟨bb, o + j * 2 + 1, none⟩) hbn).trans (sp1 HC.out hu)
            have j0 : (0 : Int) ≤ (j : Int) := by omega
            have j1 : (j : Int) < (l.length : Int) := by omega
            have HMR2 : Hid (mrg (l.drop k) x = mrg (l.drop (j + 1)) (if u.1 < y.1 then u.1 else y.1, if y.2 < u.2 then u.2 else y.2)) := Lib.hid (by rw [HMR.out, mrg_at hu, if_pos z])
            have zbb : bb < wr.heap.size := by have := hBQ.size; omega
            have hne : bb ≠ w.heap.size := by omega
            clear hu z
            go_upto_region 6 with fail
            go_quiet (fail)
            go_upto_region 7 with fail
            generalize hw6 : wr.drewN _ = w6 at *
            have hh6 : w6.heap = wr.heap := by rw [← hw6]; rfl
            have hc6 : ∀ p, w6.cell? p = wr.cell? p := fun p => by rw [← hw6]; rfl
            have hB6 : Below w.heap.size w w6 := by rw [← hw6]; exact belowA
            clear hw6
            refine wp_region_plan (fun V => (∀ q, V.cell? ⟨w.heap.size, q, none⟩ = #[Value.int .i64 y.1, .int .i64 y.2][q]?) ∧ V.cell? ⟨bb, o + j * 2, none⟩ = some (.int .i64 u.1) ∧ V.cell? ⟨bb, o + j * 2 + 1, none⟩ = some (.int .i64 u.2)) [0, 1, 0, 0, 0, 0, 1, 0, 0, 1, 0, 0, 0, 0, 1, 0, 0, 3] [0, 1, 2, 3, 4, 5, 6, 7, 8, 9, 10, 11, 12, 13, 14, 15, 16, 17] (by kernel_rfl) (by kernel_rfl) ?_ ?_
            case refine_1 => exact ⟨fun q => (hc6 _).trans (cx q), (hc6 _).trans q0, (hc6 _).trans q1⟩
            (iterate 17 (refine plan_held rfl (by decide) (by rfl) (fun w1 hS => by (try (have hS := hS rfl; obtain hS := hS; repeat (obtain ⟨_, hS⟩ := hS))); go_simp; rfl) ?_; simp only [Act.put, List.setIfInBounds_toArray, List.set_cons_zero, List.set_cons_succ]))
            have cx6 : ∀ q, w6.cell? ⟨w.heap.size, q, none⟩ = #[Value.int .i64 y.1, .int .i64 y.2][q]? := fun q => (hc6 _).trans (cx q)
            have fx6 : ∀ q, w6.frozen? ⟨w.heap.size, q, none⟩ = false := fun q => by unfold World.frozen?; rw [hh6]; exact frozenB HXQ.out q
            obtain ⟨m, hm⟩ : ∃ m : Sp, (if u.1 < y.1 then u.1 else y.1, if y.2 < u.2 then u.2 else y.2) = m := ⟨_, rfl⟩
            have e1 : (if u.1 < y.1 then u.1 else y.1) = m.1 := by rw [← hm]
            have e2 : (if y.2 < u.2 then u.2 else y.2) = m.2 := by rw [← hm]
            rw [hm] at HMR2
            rw [e1, e2]
            clear cx e1 e2 hm hc6
            (refine plan_late rfl rfl (by rfl) (fun K hK => ?_); go_simp)
            (refine hK _ _ ?_; clear hK K; (try simp only [Act.put, List.setIfInBounds_toArray, List.set_cons_zero, List.set_cons_succ]))
            refine plan_done ?_
            go_wp2
            have HX6 : w6.heap[w.heap.size]? = some (.cells (spC y).toArray 47 (0, 0)) := by rw [hh6]; exact HXQ.out
            have HO6 : w6.ownsRow (w.heap.size + 1) 47 2 (.slice va k vc) k (sps (l.take k)) := own_kept1 HOQ.out fun q hq => by rw [hh6]
            have hz6 : w.heap.size < w6.heap.size := by rw [hh6]; exact hzQ
            refine ⟨⟨j + 1, m, by omega, by omega, by go_num, HMR2, Lib.hid ?_, Lib.hid ?_, ?_, ?_⟩, by simp [intOf]; omega⟩
            · exact setB (setB HX6 0 (.int .i64 m.1)) 1 (.int .i64 m.2)
            · refine own_kept1 HO6 fun q hq => ?_
              have hq1 := (HO6.lt q hq).1
              exact (heap_setCell_other _ ⟨w.heap.size, 1, none⟩ q _ (by show q ≠ w.heap.size; omega)).trans (heap_setCell_other _ ⟨w.heap.size, 0, none⟩ q _ (by show q ≠ w.heap.size; omega))
            · exact bdrew (bset (bset hB6 (Nat.le_refl _)) (Nat.le_refl _))
            · simp; omega
          · have HFIN : Hid (ins2 l x = l.take k ++ (y :: l.drop j)) := Lib.hid (by rw [HI.out, HMR.out, hmr2])
            clear hmr2
            rcases hcase2 with hjl | ⟨u, hu, z⟩
            · have dl : decide ((j : Int) < (l.length : Int)) = false := decide_eq_false (by omega)
              go_upto_region 6 with fail
              go_quiet (fail)
              (try clear hjl)
              generalize hw7 : wr.drewN _ = w7 at *
              have hh7 : w7.heap = wr.heap := by rw [← hw7]; rfl
              have hB7 : Below w.heap.size w w7 := by rw [← hw7]; exact belowA
              clear hw7 cx
              have HX7 : Hid (w7.heap[w.heap.size]? = some (.cells (spC y).toArray 47 (0, 0))) := Lib.hid (by rw [hh7]; exact HXQ.out)
              have HO7 : Hid (w7.ownsRow (w.heap.size + 1) 47 2 (.slice va k vc) k (sps (l.take k))) := Lib.hid (own_kept1 HOQ.out fun q hq => by rw [hh7])
              have hz7 : w.heap.size < w7.heap.size := by rw [hh7]; exact hzQ
              have HX7' := HX7.out
              have cx := fun q => cellB HX7' q
              simp only [spC] at cx
              have j0' : (0 : Int) ≤ (j : Int) := by omega
              have j1' : (j : Int) ≤ (l.length : Int) := by omega
              have h1' : (l.length : Int) ≤ (c : Int) := by omega
              clear HX7' hh7
              go_upto_region 9 with fail
              refine wp_region_plan (fun V => ∀ q, V.cell? ⟨w.heap.size, q, none⟩ = #[Value.int .i64 y.1, .int .i64 y.2][q]?) [0, 1, 3, 3, 0, 0, 0, 3, 0] [0, 1, 4, 5, 6, 2, 3, 7, 8] (by kernel_rfl) (by kernel_rfl) ?_ ?_
              case refine_1 => exact cx
              (iterate 5 (refine plan_held rfl (by decide) (by rfl) (fun w1 hS => by (try (have hS := hS rfl; obtain hS := hS; repeat (obtain ⟨_, hS⟩ := hS))); go_simp; rfl) ?_; simp only [Act.put, List.setIfInBounds_toArray, List.set_cons_zero, List.set_cons_succ]))
              clear cx
              (refine plan_late rfl rfl (by rfl) (fun K hK => ?_); go_simp)
              (refine hK _ _ ?_; clear hK K; (try simp only [Act.put, List.setIfInBounds_toArray, List.set_cons_zero, List.set_cons_succ]))
              refine plan_late rfl rfl (by rfl) (fun K hK => ?_)
              refine wp_append_F _ _ _ _ rfl (w.heap.size + 1) 47 i0 _ 2 16 Try.underlying29 hin hz0 hz1 hz2 rfl (by omega) (.slice va k vc) k (sps (l.take k)) rfl (own_kept1 HO7.out (fun q hq => Below.heap_alloc _ _ _ (HO7.out.lt q hq).2)) ⟨w7.heap.size, 0, none⟩ 1 1 (spC y) rfl rfl (news_one heap_new) (by simp [spC, Value.oneCell']) (by simp only [maxLen]; omega) (by omega) (by simp; omega) (by omega) ?_
              intro x' w8 ho8 hg8 hf8
              obtain ⟨ax', cx', rfl⟩ := own_shape ho8
              have hs8 := hg8.size
              have hB8 : Below w.heap.size w w8 := Below.grown (by exact belowA) hg8 (by simp; omega) (fun q hq => by have := (HO7.out.lt q hq).1; omega)
              have HO8 := Lib.hid ho8
              simp at hs8
              clear ho8 hg8 hf8
              (refine hK _ _ ?_; clear hK K; (try simp only [Act.put, List.setIfInBounds_toArray, List.set_cons_zero, List.set_cons_succ]))
              refine plan_late rfl rfl (by rfl) (fun K hK => ?_)
              obtain ⟨ad, had, hadn⟩ : ∃ ad : Addr, (if c = j then some (⟨bb, o, none⟩ : Addr) else some ⟨bb, o + j * 2, none⟩) = some ad ∧ (c ≠ j → ad = ⟨bb, o + j * 2, none⟩) := by
                by_cases z : c = j
                · exact ⟨_, if_pos z, fun h => absurd z h⟩
                · exact ⟨_, if_neg z, fun _ => rfl⟩
              have hnews : ∀ q u, (sps (l.drop j))[q]? = some u → w8.cell? (ad.add q) = some u := fun q u hu => by
                have hcj : c ≠ j := fun e => by
                  have : l.drop j = [] := List.drop_eq_nil_iff.2 (by omega)
                  rw [this] at hu
                  simp [sps] at hu
                rw [hadn hcj, addN]
                refine (hB8.cell (p := ⟨bb, o + j * 2 + q, none⟩) hbn).trans ?_
                rw [sps_drop] at hu
                rw [Nat.add_assoc]
                exact HC.out _ u hu
              refine wp_append_own _ _ _ _ rfl (w.heap.size + 1) 47 i0 _ 2 16 Try.underlying29 hin hz0 hz1 hz2 rfl (by omega) (.slice ax' (k + 1) cx') (k + 1) (sps (l.take k) ++ spC y) rfl HO8.out ad (l.length - j) (c - j) (sps (l.drop j)) (by first | (show Value.slice (if c = j then some (⟨bb, o, none⟩ : Addr) else some ⟨bb, o + j * 2, none⟩) (l.length - j) (c - j) = _; rw [had]) | (show Value.slice (if c = j then some (⟨bb, o, none⟩ : Addr) else some ⟨bb, o + j * 2, none⟩) 0 (c - j) = _; rw [had, show l.length - j = 0 by omega])) (by rw [sps_len, List.length_drop]) hnews (sps_one _) (by simp only [maxLen]; omega) (by omega) (by omega) ?_
              intro x9 w9 ho9 hg9 _
              have hB9 : Below w.heap.size w w9 := hB8.grown hg9 (by omega) (fun q hq => by have := (HO8.out.lt q hq).1; omega)
              have HR9 : Hid (RSps w9 w9.heap.size x9 (ins2 l x)) := Lib.hid (by
                rw [HFIN.out]
                refine RSps.of_own (base := w.heap.size + 1) (n := k + 1 + (l.length - j)) (e := 47) ?_
                rw [sps_append]
                have : sps (y :: l.drop j) = spC y ++ sps (l.drop j) := by simp [sps]
                rw [this, ← List.append_assoc]
                exact ho9)
              obtain ⟨a9, c9, rfl, _⟩ := id HR9.out
              have HF9 : Hid (RFrom w.heap.size _) := Lib.hid ((own_from ho9).le (Nat.le_succ _))
              clear ho9 hg9
              (refine hK _ _ ?_; clear hK K; (try simp only [Act.put, List.setIfInBounds_toArray, List.set_cons_zero, List.set_cons_succ]))
              (iterate 1 (refine plan_held rfl (by decide) (by rfl) (fun w1 hS => by (try (have hS := hS rfl; obtain hS := hS; repeat (obtain ⟨_, hS⟩ := hS))); go_simp; rfl) ?_; simp only [Act.put, List.setIfInBounds_toArray, List.set_cons_zero, List.set_cons_succ]))
              refine plan_done ?_
              go_wp2
              all_goals (go_ret; exact ⟨_, rfl, HR9.out, HF9.out, belowA⟩)
            · skip
              have hlt : j < l.length := by
                rcases Nat.lt_or_ge j l.length with z | z
                · exact z
                · rw [List.getElem?_eq_none z] at hu; cases hu
              have dl : decide ((j : Int) < (l.length : Int)) = true := decide_eq_true (by omega)
              have dz : decide (u.1 ≤ y.2) = false := decide_eq_false z
              have q0 : wr.cell? ⟨bb, o + j * 2, none⟩ = some (.int .i64 u.1) := (hBQ.cell (p := ⟨bb, o + j * 2, none⟩) hbn).trans (sp0 HC.out hu)
              have j0 : (0 : Int) ≤ (j : Int) := by omega
              have j1 : (j : Int) < (l.length : Int) := by omega
              clear hu z
              go_upto_region 6 with fail
              go_quiet (fail)
              (try clear hjl)
              generalize hw7 : wr.drewN _ = w7 at *
              have hh7 : w7.heap = wr.heap := by rw [← hw7]; rfl
              have hB7 : Below w.heap.size w w7 := by rw [← hw7]; exact belowA
              clear hw7 cx
              have HX7 : Hid (w7.heap[w.heap.size]? = some (.cells (spC y).toArray 47 (0, 0))) := Lib.hid (by rw [hh7]; exact HXQ.out)
              have HO7 : Hid (w7.ownsRow (w.heap.size + 1) 47 2 (.slice va k vc) k (sps (l.take k))) := Lib.hid (own_kept1 HOQ.out fun q hq => by rw [hh7])
              have hz7 : w.heap.size < w7.heap.size := by rw [hh7]; exact hzQ
              have HX7' := HX7.out
              have cx := fun q => cellB HX7' q
              simp only [spC] at cx
              have j0' : (0 : Int) ≤ (j : Int) := by omega
              have j1' : (j : Int) ≤ (l.length : Int) := by omega
              have h1' : (l.length : Int) ≤ (c : Int) := by omega
              clear HX7' hh7
              go_upto_region 9 with fail
              refine wp_region_plan (fun V => ∀ q, V.cell? ⟨w.heap.size, q, none⟩ = #[Value.int .i64 y.1, .int .i64 y.2][q]?) [0, 1, 3, 3, 0, 0, 0, 3, 0] [0, 1, 4, 5, 6, 2, 3, 7, 8] (by kernel_rfl) (by kernel_rfl) ?_ ?_
              case refine_1 => exact cx
              (iterate 5 (refine plan_held rfl (by decide) (by rfl) (fun w1 hS => by (try (have hS := hS rfl; obtain hS := hS; repeat (obtain ⟨_, hS⟩ := hS))); go_simp; rfl) ?_; simp only [Act.put, List.setIfInBounds_toArray, List.set_cons_zero, List.set_cons_succ]))
              clear cx
              (refine plan_late rfl rfl (by rfl) (fun K hK => ?_); go_simp)
              (refine hK _ _ ?_; clear hK K; (try simp only [Act.put, List.setIfInBounds_toArray, List.set_cons_zero, List.set_cons_succ]))
              refine plan_late rfl rfl (by rfl) (fun K hK => ?_)
              refine wp_append_F _ _ _ _ rfl (w.heap.size + 1) 47 i0 _ 2 16 Try.underlying29 hin hz0 hz1 hz2 rfl (by omega) (.slice va k vc) k (sps (l.take k)) rfl (own_kept1 HO7.out (fun q hq => Below.heap_alloc _ _ _ (HO7.out.lt q hq).2)) ⟨w7.heap.size, 0, none⟩ 1 1 (spC y) rfl rfl (news_one heap_new) (by simp [spC, Value.oneCell']) (by simp only [maxLen]; omega) (by omega) (by simp; omega) (by omega) ?_
              intro x' w8 ho8 hg8 hf8
              obtain ⟨ax', cx', rfl⟩ := own_shape ho8
              have hs8 := hg8.size
              have hB8 : Below w.heap.size w w8 := Below.grown (by exact belowA) hg8 (by simp; omega) (fun q hq => by have := (HO7.out.lt q hq).1; omega)
              have HO8 := Lib.hid ho8
              simp at hs8
              clear ho8 hg8 hf8
              (refine hK _ _ ?_; clear hK K; (try simp only [Act.put, List.setIfInBounds_toArray, List.set_cons_zero, List.set_cons_succ]))
              refine plan_late rfl rfl (by rfl) (fun K hK => ?_)
              obtain ⟨ad, had, hadn⟩ : ∃ ad : Addr, (if c = j then some (⟨bb, o, none⟩ : Addr) else some ⟨bb, o + j * 2, none⟩) = some ad ∧ (c ≠ j → ad = ⟨bb, o + j * 2, none⟩) := by
                by_cases z : c = j
                · exact ⟨_, if_pos z, fun h => absurd z h⟩
                · exact ⟨_, if_neg z, fun _ => rfl⟩
              have hnews : ∀ q u, (sps (l.drop j))[q]? = some u → w8.cell? (ad.add q) = some u := fun q u hu => by
                have hcj : c ≠ j := fun e => by
                  have : l.drop j = [] := List.drop_eq_nil_iff.2 (by omega)
                  rw [this] at hu
                  simp [sps] at hu
                rw [hadn hcj, addN]
                refine (hB8.cell (p := ⟨bb, o + j * 2 + q, none⟩) hbn).trans ?_
                rw [sps_drop] at hu
                rw [Nat.add_assoc]
                exact HC.out _ u hu
              refine wp_append_own _ _ _ _ rfl (w.heap.size + 1) 47 i0 _ 2 16 Try.underlying29 hin hz0 hz1 hz2 rfl (by omega) (.slice ax' (k + 1) cx') (k + 1) (sps (l.take k) ++ spC y) rfl HO8.out ad (l.length - j) (c - j) (sps (l.drop j)) (by first | (show Value.slice (if c = j then some (⟨bb, o, none⟩ : Addr) else some ⟨bb, o + j * 2, none⟩) (l.length - j) (c - j) = _; rw [had]) | (show Value.slice (if c = j then some (⟨bb, o, none⟩ : Addr) else some ⟨bb, o + j * 2, none⟩) 0 (c - j) = _; rw [had, show l.length - j = 0 by omega])) (by rw [sps_len, List.length_drop]) hnews (sps_one _) (by simp only [maxLen]; omega) (by omega) (by omega) ?_
              intro x9 w9 ho9 hg9 _
              have hB9 : Below w.heap.size w w9 := hB8.grown hg9 (by omega) (fun q hq => by have := (HO8.out.lt q hq).1; omega)
              have HR9 : Hid (RSps w9 w9.heap.size x9 (ins2 l x)) := Lib.hid (by
                rw [HFIN.out]
                refine RSps.of_own (base := w.heap.size + 1) (n := k + 1 + (l.length - j)) (e := 47) ?_
                rw [sps_append]
                have : sps (y :: l.drop j) = spC y ++ sps (l.drop j) := by simp [sps]
                rw [this, ← List.append_assoc]
                exact ho9)
              obtain ⟨a9, c9, rfl, _⟩ := id HR9.out
              have HF9 : Hid (RFrom w.heap.size _) := Lib.hid ((own_from ho9).le (Nat.le_succ _))
              clear ho9 hg9
              (refine hK _ _ ?_; clear hK K; (try simp only [Act.put, List.setIfInBounds_toArray, List.set_cons_zero, List.set_cons_succ]))
              (iterate 1 (refine plan_held rfl (by decide) (by rfl) (fun w1 hS => by (try (have hS := hS rfl; obtain hS := hS; repeat (obtain ⟨_, hS⟩ := hS))); go_simp; rfl) ?_; simp only [Act.put, List.setIfInBounds_toArray, List.set_cons_zero, List.set_cons_succ]))
              refine plan_done ?_
              go_wp2
              all_goals (go_ret; exact ⟨_, rfl, HR9.out, HF9.out, belowA⟩)
end Go.Proofs.Ytpnfkmlgelcbgaa
