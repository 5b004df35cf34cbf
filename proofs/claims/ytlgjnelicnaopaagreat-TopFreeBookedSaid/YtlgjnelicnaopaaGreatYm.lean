/- interval.Normal of spans in order. -/
import Derived.BigQuiet
import Derived.BigRegion
import Derived.Deep.DeepCutAuto
import Derived.Deep.CutBlock
import Derived.Lib.MinMax
import Derived.Test.YtlgjnelicnaopaaGreatYj
import Derived.Test.YtlgjnelicnaopaaGreatYl
import Derived.Test.YtlgjnelicnaopaaGreatVh
set_option linter.unusedVariables false
set_option linter.unusedSimpArgs false
namespace Go.Proofs.YtlgjnelicnaopaaGreat
open Go Go.RowKit Iv
attribute [local go_sem] Oper.semAt_some
attribute [local go_sem] B_getElem B_size B_app B_extract B_get B_toList

/-- what the loop of Normal holds: P, of the first k spans -/
def NInv (M R : List Sp) (k : Nat) (P : List Sp) : Prop := P.length ≤ k ∧ ((k = 0 ∧ P = [] ∧ nrm M = R) ∨ ∃ Q y, P = Q ++ [y] ∧ Q ++ nrmG y (M.drop k) = R)
theorem drop_at {M : List Sp} {k : Nat} {x : Sp} (h : M[k]? = some x) : M.drop k = x :: M.drop (k + 1) := by
  obtain ⟨h1, h2⟩ := List.getElem?_eq_some_iff.1 h
  rw [List.drop_eq_getElem_cons h1, h2]
theorem NInv.first {M R : List Sp} {k : Nat} {x : Sp} (hk : k = 0) (hR : nrm M = R) (hx : M[k]? = some x) : NInv M R (k + 1) [x] := by
  subst hk
  refine ⟨Nat.le_refl _, .inr ⟨[], x, rfl, ?_⟩⟩
  have := drop_at hx
  rw [List.drop_zero] at this
  rw [this] at hR
  exact hR
theorem NInv.join {M R Q : List Sp} {k : Nat} {x y : Sp} (hl : (Q ++ [y]).length ≤ k) (hR : Q ++ nrmG y (M.drop k) = R) (hx : M[k]? = some x) (z : x.1 ≤ y.2) : NInv M R (k + 1) (Q ++ [(y.1, max y.2 x.2)]) := by
  refine ⟨by simp at hl ⊢; omega, .inr ⟨Q, _, rfl, ?_⟩⟩
  rw [drop_at hx] at hR
  unfold nrmG at hR
  rw [if_pos z] at hR
  exact hR
theorem NInv.next {M R Q : List Sp} {k : Nat} {x y : Sp} (hl : (Q ++ [y]).length ≤ k) (hR : Q ++ nrmG y (M.drop k) = R) (hx : M[k]? = some x) (z : ¬ x.1 ≤ y.2) : NInv M R (k + 1) ((Q ++ [y]) ++ [x]) := by
  refine ⟨by simp at hl ⊢; omega, .inr ⟨_, x, rfl, ?_⟩⟩
  rw [drop_at hx] at hR
  unfold nrmG at hR
  rw [if_neg z] at hR
  rw [← hR]
  simp
theorem NInv.last {M R P : List Sp} (h : NInv M R M.length P) : P = R := by
  rcases h.2 with ⟨h1, rfl, h3⟩ | ⟨Q, y, rfl, h3⟩
  · have : M = [] := List.eq_nil_of_length_eq_zero h1
    subst this
    exact h3
  · rw [List.drop_length] at h3
    exact h3
theorem sps_to2 (L : List Sp) (s r t : Int) : (sps (L ++ [(s, r)])).set (L.length * 2 + 1) (.int .i64 t) = sps (L ++ [(s, t)]) := by
  rw [sps_append, sps_append, List.set_append_right _ _ (by rw [sps_len]; omega), sps_len, show L.length * 2 + 1 - L.length * 2 = 1 by omega]
  rfl
theorem bdrewX {B : Nat} {a w : World} (h : Below B a w) : Below B a w.drew := bdrew h
set_option maxRecDepth 100000 in
set_option maxHeartbeats 16000000 in
theorem normal_any (M : List Sp) (u : Value) (w : World) (h : RSps w w.heap.size u M) (hl : M.length ≤ 1000) (hv : M.any (fun x => !vSp x) = false) (hs : M.Pairwise (fun x y => x.1 < y.1)) :
    Calls Tryz.prog 8 #[u] w (SpsPostF (nrm M, 0) w) := by
  obtain ⟨a, c, rfl, h1, h2, h3, h4⟩ := id h
  have HR := Lib.hid h
  have HV := Lib.hid hv
  have HS := Lib.hid hs
  have d1 : decide ((1000 : Int) < (M.length : Int)) = false := by rw [decide_eq_false_iff_not]; omega
  have d1' : (M.length : Int) ≤ 1000 := by omega
  obtain ⟨R, hR⟩ : ∃ q, nrm M = q := ⟨_, rfl⟩
  have HRR := Lib.hid hR
  rw [hR]
  obtain ⟨i0, hin, hz0, hz1, hz2⟩ := info_parts infoSpan
  have hcall : ∀ args W, (callFunc 25 args).run Tryz.prog W = .ok (.enter 25 args) W := fun _ _ => by kernel_rfl
  clear h h1 h2 h3 h4 hv hs hR
  go_enter Tryz.func8, Tryz.ntmps8
  go_wp2_with fail
  refine (contains_PredS M _ 25 #[] (fun x => !vSp x) _ HR.out ⟨hcall, fun x W hx hW => ncl_any x W⟩).mono ?_
  rw [HV.out]
  rintro e w1 ⟨rfl, hb1⟩
  go_wp2_with fail
  refine (callsIn_wide (n := 12)).1 ((vals_in Fence.wide 12 trivial rfl a M.length c w1).mono ?_)
  rintro e w2 ⟨rfl, hw2⟩
  have hB2 : Below w.heap.size w w2 := by rw [hw2]; exact balloc0 hb1
  have G2 : w2.heap[w1.heap.size]? = some (.cells #[.slice a M.length c] 36 (0, 0)) := by rw [hw2]; exact heap_new
  have HG2 := Lib.hid G2
  clear hw2 hb1 G2
  go_wp2_with fail
  refine (sortedf_any M a c w1.heap.size _ HG2.out (HR.out.below' hB2) HS.out hl).mono ?_
  rintro e w4 hr4
  obtain ⟨u4, rfl, ho4, hb4⟩ := hr4
  have hB4 : Below w.heap.size w w4 := btrans0 hB2 hb4
  obtain ⟨a4, c4, rfl, k1, k2, k3, k4⟩ := RSps.of_own ho4
  unfold maxLen at k2
  have hlen : M.length ≤ 9223372036854775807 := by omega
  have H4 := Lib.hid k4
  clear hb4 ho4 k3 k4 HG2
  go_wp2
  go_loopw [5, 19] (fun ov iv wr => ∃ (k : Nat) (P : List Sp), k ≤ M.length ∧ iv = .int .i64 k ∧ Hid (wr.ownsRow w4.heap.size 46 2 ov P.length (sps P)) ∧ Hid (NInv M R k P) ∧ Below w4.heap.size w4 wr) (fun _ iv _ => M.length - (intOf iv).toNat)
  case atStart => exact ⟨0, [], Nat.zero_le _, rfl, Lib.hid (World.ownsRow_nil _ _ _ _), Lib.hid ⟨Nat.zero_le _, .inl ⟨rfl, rfl, HRR.out⟩⟩, Below.refl _ _⟩
  case round =>
    obtain ⟨k, P, hk, rfl, HO, HI, hB⟩ := hrel
    have hsr : w4.heap.size ≤ wr.heap.size := hB.size
    by_cases hlt : k < M.length
    · obtain ⟨bb, o, rfl, hbn, hcell⟩ := H4.out (by omega)
      obtain ⟨x, hx⟩ : ∃ x, M[k]? = some x := ⟨_, List.getElem?_eq_getElem hlt⟩
      have q0 : wr.cell? ⟨bb, o + k * 2, none⟩ = some (.int .i64 x.1) := (hB.cell (p := ⟨bb, o + k * 2, none⟩) hbn).trans (sp0 hcell hx)
      have q1 : wr.cell? ⟨bb, o + k * 2 + 1, none⟩ = some (.int .i64 x.2) := (hB.cell (p := ⟨bb, o + k * 2 + 1, none⟩) hbn).trans (sp1 hcell hx)
      have k0 : (0 : Int) ≤ (k : Int) := by omega
      have k1' : (k : Int) < (M.length : Int) := by omega
      have HX := Lib.hid hx
      have hpl : P.length ≤ 1000 := by have := HI.out.1; omega
      rcases HI.out.2 with ⟨hk0, hP, hR⟩ | ⟨Q, y, hP, hR⟩
      · subst hP
        have HI2 : Hid (NInv M R (k + 1) [x]) := Lib.hid (NInv.first hk0 hR hx)
        obtain ⟨va, vc, rfl⟩ := own_shape HO.out
        clear hcell hx hk0 hR
        go_upto_region 11 with fail
        obtain ⟨w6, hw6⟩ : ∃ q, wr.alloc (.cells #[.int .i64 x.1, .int .i64 x.2] 46) = q := ⟨_, rfl⟩
        rw [hw6]
        have hB6 : Below w4.heap.size w4 w6 := by rw [← hw6]; exact balloc hB hsr
        have hK6 : ∀ q, q < wr.heap.size → w6.heap[q]? = wr.heap[q]? := by rw [← hw6]; exact fun q hq => Below.heap_alloc _ _ _ hq
        have GX : w6.heap[wr.heap.size]? = some (.cells #[.int .i64 x.1, .int .i64 x.2] 46 (0, 0)) := by rw [← hw6]; exact heap_new
        have hs6 : wr.heap.size < w6.heap.size := by rw [← hw6]; simp
        clear hw6 q0 q1
        have cx := fun q => cellB GX q
        go_quiet (fail)
        generalize hw7 : w6.drewN _ = w7 at *
        have hB7 : Below w4.heap.size w4 w7 := by rw [← hw7]; exact bdrewN hB6 _
        have cx7 : ∀ q, w7.cell? ⟨wr.heap.size, q, none⟩ = #[.int .i64 x.1, .int .i64 x.2][q]? := by rw [← hw7]; exact cx
        have HO7 : Hid (w7.ownsRow w4.heap.size 46 2 (.slice va 0 vc) 0 (sps [])) := Lib.hid (by rw [← hw7]; exact own_kept1 HO.out (fun q hq => hK6 q (HO.out.lt q hq).2))
        have hx7 : wr.heap.size < w7.heap.size := by rw [← hw7]; exact hs6
        have hs7 : w4.heap.size ≤ w7.heap.size := hB7.size
        clear hw7 cx
        go_wp2_with (at_builtin; refine wpList_append_F _ rfl _ _ _ rfl w4.heap.size 46 i0 _ 2 16 Tryz.underlying36 hin hz0 hz1 hz2 rfl (by omega) (.slice va 0 vc) 0 (sps []) rfl (own_kept1 HO7.out (fun q hq => Below.heap_alloc _ _ _ (HO7.out.lt q hq).2)) ⟨w7.heap.size, 0, none⟩ 1 1 (spC x) rfl rfl (news_one heap_new) (by simp [spC, Value.oneCell']) (by simp [maxLen]) (by omega) (by simp; omega) (by omega) ?_; intro vo w9 ho9 hg9 hf9)
        have hB9 : Below w4.heap.size w4 w9 := Below.grown (balloc hB7 hs7) hg9 (by simp; omega) (fun q hq => (HO7.out.lt q hq).1)
        have HO9 := Lib.hid ho9
        clear ho9 hg9 hf9 cx7
        go_wp2
        go_roundw
        case rel => exact ⟨k + 1, [x], by omega, by go_num, Lib.hid (by simpa [sps] using HO9.out), HI2, hB9⟩
        case measure => simp [intOf]; omega
      · subst hP
        have hP1 : (Q ++ [y]).length = Q.length + 1 := by simp
        obtain ⟨N, hN⟩ : ∃ N, Q.length = N := ⟨_, rfl⟩
        have HO' := HO.out
        rw [hP1, hN] at HO'
        rw [hP1, hN] at hpl
        obtain ⟨gb, vc, rfl⟩ := own_form HO' (by omega)
        have HOO := Lib.hid HO'
        have HN := Lib.hid hN
        have n1 : (0 : Int) < (N : Int) + 1 := by omega
        have dn : decide ((N : Int) + 1 > 0) = true := decide_eq_true n1
        have dn2 : decide ((0 : Int) < (N : Int) + 1) = true := decide_eq_true n1
        have hw1 : IntKind.i64.wrap ((N : Int) + 1 - 1) = (N : Int) := by rw [IntKind.wrap_i64]; omega
        have hw2 : IntKind.i64.wrap (N : Int) = (N : Int) := by rw [IntKind.wrap_i64]; omega
        have hn0 : (0 : Int) ≤ (N : Int) := by omega
        have hn1 : (N : Int) < (N : Int) + 1 := by omega
        have hgl := HO'.lt gb rfl
        obtain ⟨hgl1, hgl2⟩ := hgl
        have cg : wr.cell? ⟨gb, N * 2 + 1, none⟩ = some (.int .i64 y.2) := by
          have := HO'.cells (g := gb) rfl (N * 2 + 1) (.int .i64 y.2) (by
            rw [sps_append, List.getElem?_append_right (by rw [sps_len, hN]; omega), sps_len, hN, show N * 2 + 1 - N * 2 = 1 by omega]
            rfl)
          rwa [addN, Nat.zero_add] at this
        have fg : wr.frozen? ⟨gb, N * 2 + 1, none⟩ = false := by have := HO'.frozenAt (g := gb) (N * 2 + 1); simpa using this
        by_cases z : x.1 ≤ y.2
        · have dz : decide (x.1 ≤ y.2) = true := decide_eq_true z
          have HI2 : Hid (NInv M R (k + 1) (Q ++ [(y.1, max y.2 x.2)])) := Lib.hid (NInv.join HI.out.1 hR hx z)
          clear hcell hx hR hP1 hN HO' z
          go_upto_region 11 with fail
          obtain ⟨w6, hw6⟩ : ∃ q, wr.alloc (.cells #[.int .i64 x.1, .int .i64 x.2] 46) = q := ⟨_, rfl⟩
          rw [hw6]
          have hB6 : Below w4.heap.size w4 w6 := by rw [← hw6]; exact balloc hB hsr
          have hK6 : ∀ q, q < wr.heap.size → w6.heap[q]? = wr.heap[q]? := by rw [← hw6]; exact fun q hq => Below.heap_alloc _ _ _ hq
          have GX : w6.heap[wr.heap.size]? = some (.cells #[.int .i64 x.1, .int .i64 x.2] 46 (0, 0)) := by rw [← hw6]; exact heap_new
          have hs6 : wr.heap.size < w6.heap.size := by rw [← hw6]; simp
          clear hw6 q0 q1
          have cx := fun q => cellB GX q
          have cg6 : w6.cell? ⟨gb, N * 2 + 1, none⟩ = some (.int .i64 y.2) := (World.cell?_of_block (hK6 gb hgl2)).trans cg
          have fg6 : w6.frozen? ⟨gb, N * 2 + 1, none⟩ = false := (World.frozen?_of_block (hK6 gb hgl2)).trans fg
          have hg6 : gb < w6.heap.size := by omega
          clear cg fg
          go_quiet (fail)
          generalize hw7 : w6.drewN _ = w7 at *
          have hB7 : Below w4.heap.size w4 w7 := by rw [← hw7]; exact bdrewN hB6 _
          have cg7 : w7.cell? ⟨gb, N * 2 + 1, none⟩ = some (.int .i64 y.2) := by rw [← hw7]; exact cg6
          have fg7 : w7.frozen? ⟨gb, N * 2 + 1, none⟩ = false := by rw [← hw7]; exact fg6
          have cx71 : w7.cell? ⟨wr.heap.size, 1, none⟩ = some (.int .i64 x.2) := by rw [← hw7]; exact cx 1
          have HO7 : Hid (w7.ownsRow w4.heap.size 46 2 (.slice (some ⟨gb, 0, none⟩) (N + 1) vc) (N + 1) (sps (Q ++ [y]))) := Lib.hid (by rw [← hw7]; exact own_kept1 HOO.out (fun q hq => hK6 q (HOO.out.lt q hq).2))
          have hg7 : gb < w7.heap.size := by rw [← hw7]; exact hg6
          have hx7 : wr.heap.size < w7.heap.size := by rw [← hw7]; exact hs6
          clear hw7 cx cg6 fg6
          go_upto_region 12 with fail
          refine wp_region_plan (fun V => V.cell? ⟨gb, N * 2 + 1, none⟩ = some (.int .i64 y.2) ∧ V.cell? ⟨wr.heap.size, 1, none⟩ = some (.int .i64 x.2)) [0, 0, 0, 0, 0, 0, 0, 0, 1, 0, 1, 0, 0, 0, 3] [0, 1, 2, 3, 4, 5, 6, 7, 8, 9, 10, 11, 12, 13, 14] (by kernel_rfl) (by kernel_rfl) ?_ ?_
          case refine_1 => exact ⟨cg7, cx71⟩
          (iterate 14 (refine plan_held rfl (by decide) (by rfl) (fun w1 hS => by (try (have hS := hS rfl; obtain hS := hS; repeat (obtain ⟨_, hS⟩ := hS))); go_simp; rfl) ?_; simp only [Act.put, List.setIfInBounds_toArray, List.set_cons_zero, List.set_cons_succ]))
          (refine plan_late rfl rfl (by rfl) (fun K hK => ?_); go_simp)
          (refine hK _ _ ?_; clear hK K; (try simp only [Act.put, List.setIfInBounds_toArray, List.set_cons_zero, List.set_cons_succ]))
          refine plan_done ?_
          go_wp2
          go_roundw
          case rel => exact ⟨k + 1, Q ++ [(y.1, max y.2 x.2)], by omega, by go_num, Lib.hid (by
            have e1 : (Q ++ [(y.1, max y.2 x.2)]).length = N + 1 := by rw [List.length_append, HN.out]; rfl
            rw [e1]
            have := (HO7.out.stored (N * 2 + 1) (.int .i64 (max y.2 x.2))).1
            rw [← HN.out, sps_to2, HN.out] at this
            exact this), HI2, bset (bdrewX hB7) (by show w4.heap.size ≤ gb; omega)⟩
          case measure => simp [intOf]; omega
        · have dz : decide (x.1 ≤ y.2) = false := decide_eq_false z
          have HI2 : Hid (NInv M R (k + 1) ((Q ++ [y]) ++ [x])) := Lib.hid (NInv.next HI.out.1 hR hx z)
          clear hcell hx hR hP1 hN HO' z
          go_upto_region 11 with fail
          obtain ⟨w6, hw6⟩ : ∃ q, wr.alloc (.cells #[.int .i64 x.1, .int .i64 x.2] 46) = q := ⟨_, rfl⟩
          rw [hw6]
          have hB6 : Below w4.heap.size w4 w6 := by rw [← hw6]; exact balloc hB hsr
          have hK6 : ∀ q, q < wr.heap.size → w6.heap[q]? = wr.heap[q]? := by rw [← hw6]; exact fun q hq => Below.heap_alloc _ _ _ hq
          have GX : w6.heap[wr.heap.size]? = some (.cells #[.int .i64 x.1, .int .i64 x.2] 46 (0, 0)) := by rw [← hw6]; exact heap_new
          have hs6 : wr.heap.size < w6.heap.size := by rw [← hw6]; simp
          clear hw6 q0 q1
          have cx := fun q => cellB GX q
          have cg6 : w6.cell? ⟨gb, N * 2 + 1, none⟩ = some (.int .i64 y.2) := (World.cell?_of_block (hK6 gb hgl2)).trans cg
          have hg6 : gb < w6.heap.size := by omega
          clear cg fg
          go_quiet (fail)
          generalize hw7 : w6.drewN _ = w7 at *
          have hB7 : Below w4.heap.size w4 w7 := by rw [← hw7]; exact bdrewN hB6 _
          have cx7 : ∀ q, w7.cell? ⟨wr.heap.size, q, none⟩ = #[.int .i64 x.1, .int .i64 x.2][q]? := by rw [← hw7]; exact cx
          have HO7 : Hid (w7.ownsRow w4.heap.size 46 2 (.slice (some ⟨gb, 0, none⟩) (N + 1) vc) (N + 1) (sps (Q ++ [y]))) := Lib.hid (by rw [← hw7]; exact own_kept1 HOO.out (fun q hq => hK6 q (HOO.out.lt q hq).2))
          have hx7 : wr.heap.size < w7.heap.size := by rw [← hw7]; exact hs6
          have hs7 : w4.heap.size ≤ w7.heap.size := hB7.size
          clear hw7 cx cg6
          go_wp2_with (at_builtin; refine wpList_append_F _ rfl _ _ _ rfl w4.heap.size 46 i0 _ 2 16 Tryz.underlying36 hin hz0 hz1 hz2 rfl (by omega) (.slice (some ⟨gb, 0, none⟩) (N + 1) vc) (N + 1) (sps (Q ++ [y])) rfl (own_kept1 HO7.out (fun q hq => Below.heap_alloc _ _ _ (HO7.out.lt q hq).2)) ⟨w7.heap.size, 0, none⟩ 1 1 (spC x) rfl rfl (news_one heap_new) (by simp [spC, Value.oneCell']) (by simp only [maxLen]; omega) (by omega) (by simp; omega) (by omega) ?_; intro vo w9 ho9 hg9 hf9)
          have hB9 : Below w4.heap.size w4 w9 := Below.grown (balloc hB7 hs7) hg9 (by simp; omega) (fun q hq => (HO7.out.lt q hq).1)
          have HO9 := Lib.hid ho9
          clear ho9 hg9 hf9 cx7
          go_wp2
          go_roundw
          case rel => exact ⟨k + 1, (Q ++ [y]) ++ [x], by omega, by go_num, Lib.hid (by
            have e1 : ((Q ++ [y]) ++ [x]).length = N + 1 + 1 := by rw [List.length_append, List.length_append, HN.out]; rfl
            rw [e1, sps_append]
            simpa [sps] using HO9.out), HI2, hB9⟩
          case measure => simp [intOf]; omega
    · obtain rfl : k = M.length := by omega
      have HN : Hid (P = R) := Lib.hid (HI.out.last)
      obtain ⟨va, vc, rfl⟩ := own_shape HO.out
      go_wp2
      go_ret2
      exact ⟨_, rfl, by rw [← HN.out]; exact RSps.of_own HO.out, (own_from HO.out).le hB4.size, hB4.trans (hB.mono hB4.size)⟩
end Go.Proofs.YtlgjnelicnaopaaGreat
