/- top35Awake returns true. -/
import Derived.BigQuiet
import Derived.BigRegion
import Derived.Test.YtmknchdciblfjaaGreatJa
import Derived.Test.YtmknchdciblfjaaGreatJb
import Derived.Test.YtmknchdciblfjaaGreatJt
import Derived.Test.YtmknchdciblfjaaGreatRT
import Derived.Test.YtmknchdciblfjaaGreatAwc
import Derived.Test.YtmknchdciblfjaaGreatAwe
set_option linter.unusedVariables false
set_option linter.unusedSimpArgs false
namespace Go.Proofs.YtmknchdciblfjaaGreat
open Go Go.RowKit Ev
attribute [local go_sem] Oper.semAt_some
theorem al_facts {A B : World} {o : Obj} (h : A.alloc o = B) : ∃ g, A.heap.size = g ∧ B.heap[g]? = some o ∧ Below A.heap.size A B := by
  subst h
  exact ⟨_, rfl, heap_new, balloc0 (Below.refl _ _)⟩
theorem rv_cons {m : Mp} {x : RV} {xs : List RV} {vs : List Value} (h : RVals m (x :: xs) vs) : ∃ v ws, vs = v :: ws ∧ RVal m x v ∧ RVals m xs ws := by cases h with | cons a b => exact ⟨_, _, rfl, a, b⟩
theorem rv_nil {m : Mp} {vs : List Value} (h : RVals m [] vs) : vs = [] := by cases h; rfl
theorem conL_spec {u : RV} (h : conL u = true) : ∃ i o cp, u = .tup [.slice i o 1 cp, iv 0] := by
  unfold conL at h
  split at h
  · rename_i i o n cp e
    simp only [Bool.and_eq_true, beq_iff_eq] at h
    obtain ⟨h1, rfl⟩ := h
    obtain rfl := Nat.eq_of_beq_eq_true h1
    exact ⟨i, o, cp, rfl⟩
  · cases h
theorem groL_spec {u : RV} (h : groL u = true) : ∃ i o cp j q n cq, u = .tup [.slice i o 2 cp, .slice j q n cq, iv 0] := by
  unfold groL at h
  split at h
  · rename_i i o n cp j q k cq e
    simp only [Bool.and_eq_true, beq_iff_eq] at h
    obtain ⟨h1, rfl⟩ := h
    obtain rfl := Nat.eq_of_beq_eq_true h1
    exact ⟨i, o, cp, j, q, k, cq, rfl⟩
  · cases h
theorem some_of {x : Option (RV × S)} {k : RV → Bool} (h : (match x with | some (u, _) => k u | none => false) = true) : ∃ u s, x = some (u, s) ∧ k u = true := by
  cases x with
  | none => cases h
  | some p => obtain ⟨u, s⟩ := p; exact ⟨u, s, rfl, h⟩
theorem tree_brA {P : Program} {ops : Array Oper} {Q : Exit → Act → World → Prop} {S : World → Prop} {kd : List Nat} {i j : Nat} {t u : PT} {a : Act} {w : World} (h1 : wpOp P ops Q i (fun a' w' => S w' ∧ wpTree P ops Q S kd t a' w') a w) (h2 : wpOp P ops Q j (fun a' w' => S w' ∧ wpTree P ops Q S kd u a' w') a w) : wpTree P ops Q S kd (.br2 i j t u) a w := ⟨h1, h2⟩
set_option maxRecDepth 100000 in
set_option maxHeartbeats 16000000 in
theorem awake35 (w : World) : Calls Tryz.prog 5 #[] w fun e w' => e = .returned (.bool true) ∧ Below w.heap.size w w' := by
  obtain ⟨sN, hN, -⟩ := ends_spec new_ev
  obtain ⟨sP, hP, hP4⟩ := ends_spec plan_ev
  replace hP4 := cells_is hP4
  obtain ⟨sT, hT, hTC⟩ := ends_spec put_ev
  obtain ⟨cu, sC, hC, hcl⟩ := some_of hTC
  obtain ⟨ci, co, ccp, rfl⟩ := conL_spec hcl
  obtain ⟨sA, hA, hA2⟩ := ends_spec arrival_ev
  obtain ⟨sA2, hA2, -⟩ := ends_spec hA2
  obtain ⟨sG, hG, hG2⟩ := ends_spec grow_ev
  obtain ⟨gu, sG2, hG2, hgl⟩ := some_of hG2
  obtain ⟨gi, go_, gcp, gj, gq, gn, gcq, rfl⟩ := groL_spec hgl
  obtain ⟨sR, hR, hR2⟩ := ends_spec protect_ev
  replace hR2 := cells_is hR2
  obtain ⟨sV1, hV1, hV12⟩ := ends_spec verify_ev
  replace hV12 := cells_is hV12
  obtain ⟨sV2, hV2, -⟩ := ends_spec verify2_ev
  have HN := Lib.hid hN
  have HP := Lib.hid (And.intro hP hP4)
  have HT := Lib.hid (And.intro hT hC)
  have HA := Lib.hid (And.intro hA hA2)
  have HG := Lib.hid (And.intro hG hG2)
  have HR := Lib.hid (And.intro hR hR2)
  have HV := Lib.hid (And.intro hV1 (And.intro hV12 hV2))
  clear hN hP hP4 hT hTC hC hcl hA hA2 hG hG2 hgl hR hR2 hV1 hV12 hV2
  go_enter Tryz.func5, Tryz.ntmps5
  go_wp2_with fail
  refine (es_call HN.out (ES.nil w w.heap.size) (Nat.le_refl _) (us := [.int .i64 3]) (.cons (.val _) .nil)).mono ?_
  rintro e w1 ⟨m1, u, rfl, hu, -, -, hb1⟩
  obtain ⟨vs, hv, rfl⟩ := hu.tup_inv
  obtain ⟨a, b, rfl, ha, hb⟩ := hv.two_inv
  obtain rfl := hb.val_inv
  obtain ⟨vt, ht, rfl⟩ := ha.agg_inv
  obtain ⟨c, d, rfl, hc, hd⟩ := ht.two_inv
  obtain rfl := hc.val_inv
  obtain rfl := hd.val_inv
  have H1 := Lib.hid hb1
  clear hb1 hu hv ha hb ht hc hd
  go_upto_region 2 with fail
  obtain ⟨w2, hw2⟩ : ∃ q, w1.alloc (.cells #[.int .i64 3, .slice none 0 0] 45) = q := ⟨_, rfl⟩
  rw [hw2]
  obtain ⟨tB, hg, hn, hbb⟩ := al_facts hw2
  rw [hg] at hbb ⊢
  have zw : w.heap.size ≤ tB := by rw [← hg]; exact H1.out.size
  have H2 : Hid (Below w.heap.size w w2) := Lib.hid (H1.out.trans (hbb.mono zw))
  have X2 := Lib.hid hn
  have z2 : tB < w2.heap.size := (Array.getElem?_eq_some_iff.1 hn).1
  clear hw2 hg hn hbb H1
  have c2 := fun q => cellB X2.out q
  refine wp_region_plan (fun V => ∀ q, V.cell? ⟨tB, q, none⟩ = (#[.int .i64 3, .slice none 0 0])[q]?) [1, 2, 0, 0, 2, 3, 0, 0, 0, 3, 0] [0, 1, 2, 3, 4, 5, 6, 7, 8, 9, 10] (by kernel_rfl) (by kernel_rfl) ?_ ?_
  case refine_1 => exact c2
  obtain ⟨V0, hV0⟩ : ∃ q, w2.drew = q := ⟨_, rfl⟩
  rw [hV0]
  have hd0 : Below w2.heap.size w2 V0 := by rw [← hV0]; exact bdrew (Below.refl _ _)
  have X0 := Lib.hid ((hd0.block _ z2).trans X2.out)
  have z0 : tB < V0.heap.size := Nat.lt_of_lt_of_le z2 hd0.size
  have H0 : Hid (Below w.heap.size w V0) := Lib.hid (H2.out.trans (hd0.mono (by omega)))
  clear hV0 hd0 c2 X2 H2 z2
  (refine plan_held rfl (by decide) (by rfl) (fun w1 hS => by (try (have hS := hS rfl)); go_simp; rfl) ?_; (try simp only [Act.put, List.setIfInBounds_toArray, List.set_cons_zero, List.set_cons_succ]))
  refine plan_keep rfl rfl (by rfl) (fun K hK => ?_)
  go_simp
  refine (es_call HP.out.1 (ES.nil V0 V0.heap.size) (Nat.le_refl _) (us := []) .nil).mono ?_
  rintro e V1 ⟨m2, u, rfl, hu, -, he, hb1⟩
  obtain ⟨vs, hv, rfl⟩ := hu.agg_inv
  obtain ⟨qv, cv, rfl, hq, hc⟩ := hv.two_inv
  obtain ⟨p1, e1, -, rfl⟩ := hq.known_inv
  obtain ⟨p4, e4, -, rfl⟩ := hc.known_inv
  have hX := (hb1.block _ z0).trans X0.out
  have X1 := Lib.hid hX
  have z1 : tB < V1.heap.size := Nat.lt_of_lt_of_le z0 hb1.size
  have H1 : Hid (Below w.heap.size w V1) := Lib.hid (H0.out.trans (hb1.mono (by omega)))
  have p0 : V1.cell? ⟨p4.b, p4.o, none⟩ = some (.int .i64 0) := by simpa using he.cell (j := 0) HP.out.2 e4 rfl
  have p1_ : V1.cell? ⟨p4.b, p4.o + 1, none⟩ = some (.int .i64 1) := by simpa using he.cell (j := 1) HP.out.2 e4 rfl
  have p2 : V1.cell? ⟨p4.b, p4.o + 2, none⟩ = some (.int .i64 5) := by simpa using he.cell (j := 2) HP.out.2 e4 rfl
  have p3 : V1.cell? ⟨p4.b, p4.o + 3, none⟩ = some (.int .i64 45) := by simpa using he.cell (j := 3) HP.out.2 e4 rfl
  have p4_ : V1.cell? ⟨p4.b, p4.o + 4, none⟩ = some (.int .i64 24) := by simpa using he.cell (j := 4) HP.out.2 e4 rfl
  have p5 : V1.cell? ⟨p4.b, p4.o + 5, none⟩ = some (.int .i64 2) := by simpa using he.cell (j := 5) HP.out.2 e4 rfl
  have p6 : V1.cell? ⟨p4.b, p4.o + 6, none⟩ = some (.int .i64 0) := by simpa using he.cell (j := 6) HP.out.2 e4 rfl
  refine hK _ _ (fun q => cellB hX q) ?_
  clear hK K hX X0 H0 hb1 hu hv hq hc he e1 e4 z0
  (try simp only [Act.put, List.setIfInBounds_toArray, List.set_cons_zero, List.set_cons_succ])
  (refine plan_held rfl (by decide) (by rfl) (fun w1 hS => by (try (have hS := hS rfl)); go_simp; rfl) ?_; (try simp only [Act.put, List.setIfInBounds_toArray, List.set_cons_zero, List.set_cons_succ]))
  (refine plan_held rfl (by decide) (by rfl) (fun w1 hS => by (try (have hS := hS rfl)); go_simp; rfl) ?_; (try simp only [Act.put, List.setIfInBounds_toArray, List.set_cons_zero, List.set_cons_succ]))
  refine plan_keep rfl rfl (by rfl) (fun K hK => ?_)
  go_simp
  refine hK _ _ (fun q => cellB X1.out q) ?_
  clear hK K p0 p1_ p2 p3 p4_ p5 p6
  (try simp only [Act.put, List.setIfInBounds_toArray, List.set_cons_zero, List.set_cons_succ])
  refine plan_late rfl rfl (by rfl) (fun K hK => ?_)
  go_simp
  refine (es_call HT.out.1 (ES.nil V1 V1.heap.size) (Nat.le_refl _) (us := [hisV, .int .i64 0, conV]) (.cons (.val _) (.cons (.val _) (.cons (.val _) .nil)))).mono ?_
  rintro e V2 ⟨m3, u, rfl, hu, -, he, hb2⟩
  obtain ⟨vs, hv, rfl⟩ := hu.tup_inv
  obtain ⟨hw, b, rfl, ha, hb⟩ := hv.two_inv
  obtain rfl := hb.val_inv
  obtain ⟨vt, ht, rfl⟩ := ha.agg_inv
  obtain ⟨x, y, rfl, hx, hy⟩ := ht.two_inv
  obtain rfl := hx.val_inv
  obtain ⟨p, c, -, -, -, rfl⟩ := hy.opened_inv
  have HH := Lib.hid ha
  have hX := (hb2.block _ z1).trans X1.out
  have X3 := Lib.hid hX
  have z3 : tB < V2.heap.size := Nat.lt_of_lt_of_le z1 hb2.size
  have H3 : Hid (Below w.heap.size w V2) := Lib.hid (H1.out.trans (hb2.mono (by omega)))
  have HE := Lib.hid he
  have zv := hb2.size
  refine hK _ _ ?_
  clear hK K hX X1 H1 hb2 hu hv ha hb ht hx hy he
  (try simp only [Act.put, List.setIfInBounds_toArray, List.set_cons_zero, List.set_cons_succ])
  (refine plan_held rfl (by decide) (by rfl) (fun w1 hS => by (try (have hS := hS rfl)); go_simp; rfl) ?_; (try simp only [Act.put, List.setIfInBounds_toArray, List.set_cons_zero, List.set_cons_succ]))
  (refine plan_held rfl (by decide) (by rfl) (fun w1 hS => by (try (have hS := hS rfl)); go_simp; rfl) ?_; (try simp only [Act.put, List.setIfInBounds_toArray, List.set_cons_zero, List.set_cons_succ]))
  (refine plan_held rfl (by decide) (by rfl) (fun w1 hS => by (try (have hS := hS rfl)); go_simp; rfl) ?_; (try simp only [Act.put, List.setIfInBounds_toArray, List.set_cons_zero, List.set_cons_succ]))
  refine plan_late rfl rfl (by rfl) (fun K hK => ?_)
  refine wp_store_block 45 _ _ rfl tB #[.int .i64 3, .slice (some ⟨p.b, p.o + 0, none⟩) 1 c] #[.int .i64 3, .slice none 0 0] 45 rfl rfl X3.out rfl (by kernel_rfl) (by simp [Value.oneCell']) ?_
  intro W3 hW hbW hsW hoW
  have X4 := Lib.hid hW
  have H4 : Hid (Below w.heap.size w W3) := Lib.hid (H3.out.trans (hbW w.heap.size (by omega)))
  have HE4 : Hid (ES m3 sT W3 V1.heap.size) := Lib.hid (HE.out.keep fun b h1 h2 => hoW b (by omega))
  have z4 : tB < W3.heap.size := (Array.getElem?_eq_some_iff.1 hW).1
  have zV : V1.heap.size ≤ W3.heap.size := by rw [hsW]; exact zv
  refine hK _ _ ?_
  clear hK K hW hbW hsW hoW X3 H3 HE
  (try simp only [Act.put, List.setIfInBounds_toArray, List.set_cons_zero, List.set_cons_succ])
  (refine plan_held rfl (by decide) (by rfl) (fun w1 hS => by (try (have hS := hS rfl)); go_simp; rfl) ?_; (try simp only [Act.put, List.setIfInBounds_toArray, List.set_cons_zero, List.set_cons_succ]))
  refine plan_done ?_
  have c4 := fun q => cellB X4.out q
  go_wp2_with fail
  refine (es_call HT.out.2 HE4.out zV (us := [.agg #[.int .i64 3, .slice (some ⟨p.b, p.o + 0, none⟩) 1 c]]) (.cons HH.out .nil)).mono ?_
  rintro e W4 ⟨m4, u, rfl, hu, -, -, hb4⟩
  obtain ⟨vs, hv, rfl⟩ := hu.tup_inv
  obtain ⟨a, b, rfl, ha, hb⟩ := hv.two_inv
  obtain rfl := hb.val_inv
  obtain ⟨pl, lc, -, -, rfl⟩ := ha.slice_inv
  have H5 : Hid (Below w.heap.size w W4) := Lib.hid (H4.out.trans (hb4.mono (by omega)))
  clear hu hv ha hb hb4 c4 X4 H4 HE4 HH z4 z3 z1 zV zv
  go_upto_region 5 with fail
  obtain ⟨w5, hw5⟩ : ∃ q, W4.alloc (.cells #[.int .i64 0, .int .i64 2, .int .i64 16, .int .i64 0, .int .i64 100, .int .i64 0, .bool false] 59) = q := ⟨_, rfl⟩
  rw [hw5]
  obtain ⟨qB, hg, hn, hbb⟩ := al_facts hw5
  rw [hg] at hbb ⊢
  have zq : w.heap.size ≤ qB := by rw [← hg]; exact H5.out.size
  have H6 : Hid (Below w.heap.size w w5) := Lib.hid (H5.out.trans (hbb.mono zq))
  have X6 := Lib.hid hn
  have z6 : qB < w5.heap.size := (Array.getElem?_eq_some_iff.1 hn).1
  clear hw5 hg hn hbb H5
  have c6 := fun q => cellB X6.out q
  refine wp_region_plan (fun V => ∀ q, V.cell? ⟨qB, q, none⟩ = (#[.int .i64 0, .int .i64 2, .int .i64 16, .int .i64 0, .int .i64 100, .int .i64 0, .bool false])[q]?) [2, 0, 1, 3, 0, 0, 0, 0, 0] [2, 0, 1, 3, 4, 5, 6, 7, 8] (by kernel_rfl) (by kernel_rfl) ?_ ?_
  case refine_1 => exact c6
  obtain ⟨V0_, hV0⟩ : ∃ q, w5.drew = q := ⟨_, rfl⟩
  rw [hV0]
  have hd0 : Below w5.heap.size w5 V0_ := by rw [← hV0]; exact bdrew (Below.refl _ _)
  have X7 := Lib.hid ((hd0.block _ z6).trans X6.out)
  have z7 : qB < V0_.heap.size := Nat.lt_of_lt_of_le z6 hd0.size
  have H7 : Hid (Below w.heap.size w V0_) := Lib.hid (H6.out.trans (hd0.mono (by omega)))
  clear hV0 hd0 c6 X6 H6 z6
  (refine plan_held rfl (by decide) (by rfl) (fun w1 hS => by (try (have hS := hS rfl)); go_simp; rfl) ?_; (try simp only [Act.put, List.setIfInBounds_toArray, List.set_cons_zero, List.set_cons_succ]))
  refine plan_keep rfl rfl (by rfl) (fun K hK => ?_)
  go_simp
  refine (es_call HA.out.1 (ES.nil V0_ V0_.heap.size) (Nat.le_refl _) (us := []) .nil).mono ?_
  rintro e V3 ⟨m5, u, rfl, hu, -, he, hb1⟩
  obtain ⟨vs, hv, rfl⟩ := hu.agg_inv
  obtain ⟨qv, cv, rfl, hq, hc⟩ := hv.two_inv
  have HQC := Lib.hid (And.intro hq hc)
  obtain ⟨p1, e1, -, rfl⟩ := hq.known_inv
  obtain ⟨p4, e4, -, rfl⟩ := hc.known_inv
  have hX := (hb1.block _ z7).trans X7.out
  have X8 := Lib.hid hX
  have z8 : qB < V3.heap.size := Nat.lt_of_lt_of_le z7 hb1.size
  have H8 : Hid (Below w.heap.size w V3) := Lib.hid (H7.out.trans (hb1.mono (by omega)))
  have HE := Lib.hid he
  have zv := hb1.size
  refine hK _ _ (fun q => cellB hX q) ?_
  clear hK K hX X7 H7 hb1 hu hv hq hc he e1 e4
  (try simp only [Act.put, List.setIfInBounds_toArray, List.set_cons_zero, List.set_cons_succ])
  (refine plan_held rfl (by decide) (by rfl) (fun w1 hS => by (try (have hS := hS rfl)); go_simp; rfl) ?_; (try simp only [Act.put, List.setIfInBounds_toArray, List.set_cons_zero, List.set_cons_succ]))
  refine plan_late rfl rfl (by rfl) (fun K hK => ?_)
  go_simp
  refine (es_call HA.out.2 HE.out zv (us := [.agg #[.slice (some ⟨p1.b, p1.o + 0, none⟩) 3 3, .slice (some ⟨p4.b, p4.o + 0, none⟩) 2 2, .slice none 0 0, .slice none 0 0], reqV]) (.cons (.agg (.cons HQC.out.1 (.cons HQC.out.2 (.cons (.val _) (.cons (.val _) .nil))))) (.cons (.val _) .nil))).mono ?_
  rintro e V4 ⟨m6, u, rfl, hu, -, -, hb2⟩
  obtain ⟨vs, hv, rfl⟩ := hu.tup_inv
  obtain ⟨a, b, rfl, ha, hb⟩ := hv.two_inv
  obtain rfl := hb.val_inv
  obtain rfl := ha.val_inv
  have X9 := Lib.hid ((hb2.block _ z7).trans X8.out)
  have z9 : qB < V4.heap.size := Nat.lt_of_lt_of_le z8 hb2.size
  have H9 : Hid (Below w.heap.size w V4) := Lib.hid (H8.out.trans (hb2.mono (by omega)))
  refine hK _ _ ?_
  clear hK K hu hv ha hb hb2 X8 H8 HE zv z8 z7 HQC
  (try simp only [Act.put, List.setIfInBounds_toArray, List.set_cons_zero, List.set_cons_succ])
  (refine plan_held rfl (by decide) (by rfl) (fun w1 hS => by (try (have hS := hS rfl)); go_simp; rfl) ?_; (try simp only [Act.put, List.setIfInBounds_toArray, List.set_cons_zero, List.set_cons_succ]))
  (refine plan_held rfl (by decide) (by rfl) (fun w1 hS => by (try (have hS := hS rfl)); go_simp; rfl) ?_; (try simp only [Act.put, List.setIfInBounds_toArray, List.set_cons_zero, List.set_cons_succ]))
  (refine plan_held rfl (by decide) (by rfl) (fun w1 hS => by (try (have hS := hS rfl)); go_simp; rfl) ?_; (try simp only [Act.put, List.setIfInBounds_toArray, List.set_cons_zero, List.set_cons_succ]))
  (refine plan_held rfl (by decide) (by rfl) (fun w1 hS => by (try (have hS := hS rfl)); go_simp; rfl) ?_; (try simp only [Act.put, List.setIfInBounds_toArray, List.set_cons_zero, List.set_cons_succ]))
  (refine plan_held rfl (by decide) (by rfl) (fun w1 hS => by (try (have hS := hS rfl)); go_simp; rfl) ?_; (try simp only [Act.put, List.setIfInBounds_toArray, List.set_cons_zero, List.set_cons_succ]))
  refine plan_done ?_
  go_upto_region 6 with fail
  have c9 := fun q => cellB X9.out q
  refine wp_region_tree (fun V => ∀ q, V.cell? ⟨qB, q, none⟩ = (#[.int .i64 0, .int .i64 2, .int .i64 16, .int .i64 0, .int .i64 100, .int .i64 0, .bool false])[q]?) [2, 0, 1, 2, 3, 0, 0, 0, 0, 0, 0, 0] (.go 2 (.br2 0 3 (.go 1 (.go 3 (.go 4 (.go 5 (.go 6 (.go 7 (.go 8 (.go 9 (.go 10 (.go 11 (.fin))))))))))) (.go 0 (.go 1 (.go 4 (.go 5 (.go 6 (.go 7 (.go 8 (.go 9 (.go 10 (.go 11 (.fin))))))))))))) (by kernel_rfl) (by kernel_rfl) ?_ ?_
  case refine_1 => exact c9
  obtain ⟨U0, hU0⟩ : ∃ q, V4.drew = q := ⟨_, rfl⟩
  rw [hU0]
  have hd0 : Below V4.heap.size V4 U0 := by rw [← hU0]; exact bdrew (Below.refl _ _)
  have X_U0 := Lib.hid ((hd0.block _ z9).trans X9.out)
  have z_U0 : qB < U0.heap.size := Nat.lt_of_lt_of_le z9 hd0.size
  have H_U0 : Hid (Below w.heap.size w U0) := Lib.hid (H9.out.trans (hd0.mono (by omega)))
  clear hU0 hd0 c9 X9 H9 z9
  (refine tree_held rfl (by decide) (by rfl) (fun w1 hS => by (try (have hS := hS rfl)); go_simp; rfl) ?_; (try simp only [Act.put, List.setIfInBounds_toArray, List.set_cons_zero, List.set_cons_succ]))
  refine tree_brA ?h1 ?h2
  case' h1 =>
    refine tree_op rfl (by rfl) (fun K hK => ?_)
    go_simp
    refine (es_call HG.out.1 (ES.nil U0 U0.heap.size) (Nat.le_refl _) (us := []) .nil).mono ?_
    rintro e U1 ⟨m7, u, rfl, hu, -, he, hb1⟩
    obtain ⟨vs, hv, rfl⟩ := hu.agg_inv
    obtain ⟨qv, cv, rfl, hq, hc⟩ := hv.two_inv
    have HQC := Lib.hid (And.intro hq hc)
    obtain ⟨p1, e1, -, rfl⟩ := hq.known_inv
    obtain ⟨p4, e4, -, rfl⟩ := hc.known_inv
    have hX := (hb1.block _ z_U0).trans X_U0.out
    have X_U1 := Lib.hid hX
    have z_U1 : qB < U1.heap.size := Nat.lt_of_lt_of_le z_U0 hb1.size
    have H_U1 : Hid (Below w.heap.size w U1) := Lib.hid (H_U0.out.trans (hb1.mono (by omega)))
    have HE := Lib.hid he
    have zv := hb1.size
    refine hK _ _ (fun q => cellB hX q) ?_
    clear hK K hX hb1 hu hv hq hc he e1 e4
    (try simp only [Act.put, List.setIfInBounds_toArray, List.set_cons_zero, List.set_cons_succ])
    (refine tree_held rfl (by decide) (by rfl) (fun w1 hS => by (try (have hS := hS rfl)); go_simp; rfl) ?_; (try simp only [Act.put, List.setIfInBounds_toArray, List.set_cons_zero, List.set_cons_succ]))
    refine tree_keep rfl rfl (by rfl) (fun K hK => ?_)
    go_simp
    obtain ⟨U2, hw_⟩ : ∃ q, U1.alloc (.cells #[.int .i64 1, .int .i64 2] 3) = q := ⟨_, rfl⟩
    rw [hw_]
    obtain ⟨g, hg_, hn_, hb_⟩ := al_facts hw_
    rw [hg_] at hb_ ⊢
    have hX := (hb_.block _ (by omega : qB < g)).trans X_U1.out
    have X_U2 := Lib.hid hX
    have HN_U2 := Lib.hid hn_
    have zwg : w.heap.size ≤ g := by have := H_U1.out.size; omega
    have zg_U2 : g < U2.heap.size := (Array.getElem?_eq_some_iff.1 hn_).1
    have z_U2 : qB < U2.heap.size := by omega
    have H_U2 : Hid (Below w.heap.size w U2) := Lib.hid (H_U1.out.trans (hb_.mono (by omega)))
    have HNL : Hid (¬ live m7 sG.H g) := Lib.hid (fun h => by have := HE.out.lt h; omega)
    have HES : Hid (ES m7 sG U2 U0.heap.size) := Lib.hid (HE.out.below (by rw [hg_]; exact hb_))
    have zgg : U0.heap.size ≤ g := by omega
    have HNG : Hid (U2.heap[g]? = some (.cells memC.toArray 3 (0, 0))) := HN_U2
    refine hK _ _ (fun q => cellB hX q) ?_
    clear hK K hX hw_ hg_ hn_ hb_
    (try simp only [Act.put, List.setIfInBounds_toArray, List.set_cons_zero, List.set_cons_succ])
    refine tree_late rfl rfl (by rfl) (fun K hK => ?_)
    go_simp
    refine (es_call HG.out.2 (HES.out.add HNG.out HNL.out zgg) (by omega) (us := [.agg #[.slice (some ⟨p1.b, p1.o + 0, none⟩) 3 3, .slice (some ⟨p4.b, p4.o + 0, none⟩) 2 2, .slice none 0 0, .slice none 0 0], reqV, .slice (some ⟨g, 0 + 0, none⟩) 2 2]) (.cons (.agg (.cons (HQC.out.1.mono (le_upd (HES.out.fresh _ (Nat.le_refl _)))) (.cons (HQC.out.2.mono (le_upd (HES.out.fresh _ (Nat.le_refl _)))) (.cons (.val _) (.cons (.val _) .nil))))) (.cons (.val _) (.cons (.known (upd_at _ _ _) (Nat.le_refl _)) .nil)))).mono ?_
    rintro e V9 ⟨m8, u, rfl, hu, -, -, hb9⟩
    obtain ⟨vs, hv, rfl⟩ := hu.tup_inv
    obtain ⟨a, vt, rfl, ha, ht⟩ := rv_cons hv
    obtain ⟨b, c, rfl, hb, hc⟩ := ht.two_inv
    obtain rfl := hc.val_inv
    obtain ⟨pa, ac, -, -, rfl⟩ := ha.slice_inv
    obtain ⟨pb, bc, -, -, rfl⟩ := hb.slice_inv
    have H_9 : Hid (Below w.heap.size w V9) := Lib.hid (H_U2.out.trans (hb9.mono (by omega)))
    refine hK _ _ ?_
    clear hK K hu hv ha ht hb hc hb9
    (try simp only [Act.put, List.setIfInBounds_toArray, List.set_cons_zero, List.set_cons_succ])
    (refine tree_held rfl (by decide) (by rfl) (fun w1 hS => by (try (have hS := hS rfl)); go_simp; rfl) ?_; (try simp only [Act.put, List.setIfInBounds_toArray, List.set_cons_zero, List.set_cons_succ]))
    (refine tree_held rfl (by decide) (by rfl) (fun w1 hS => by (try (have hS := hS rfl)); go_simp; rfl) ?_; (try simp only [Act.put, List.setIfInBounds_toArray, List.set_cons_zero, List.set_cons_succ]))
    (refine tree_held rfl (by decide) (by rfl) (fun w1 hS => by (try (have hS := hS rfl)); go_simp; rfl) ?_; (try simp only [Act.put, List.setIfInBounds_toArray, List.set_cons_zero, List.set_cons_succ]))
    (refine tree_held rfl (by decide) (by rfl) (fun w1 hS => by (try (have hS := hS rfl)); go_simp; rfl) ?_; (try simp only [Act.put, List.setIfInBounds_toArray, List.set_cons_zero, List.set_cons_succ]))
    (refine tree_held rfl (by decide) (by rfl) (fun w1 hS => by (try (have hS := hS rfl)); go_simp; rfl) ?_; (try simp only [Act.put, List.setIfInBounds_toArray, List.set_cons_zero, List.set_cons_succ]))
    (refine tree_held rfl (by decide) (by rfl) (fun w1 hS => by (try (have hS := hS rfl)); go_simp; rfl) ?_; (try simp only [Act.put, List.setIfInBounds_toArray, List.set_cons_zero, List.set_cons_succ]))
    (refine tree_held rfl (by decide) (by rfl) (fun w1 hS => by (try (have hS := hS rfl)); go_simp; rfl) ?_; (try simp only [Act.put, List.setIfInBounds_toArray, List.set_cons_zero, List.set_cons_succ]))
    refine tree_fin ?_
  case' h2 =>
    refine tree_op rfl (by rfl) (fun K hK => ?_)
    go_simp
    obtain ⟨U1, hw_⟩ : ∃ q, U0.alloc (.cells #[.int .i64 1, .int .i64 2] 3) = q := ⟨_, rfl⟩
    rw [hw_]
    obtain ⟨g, hg_, hn_, hb_⟩ := al_facts hw_
    rw [hg_] at hb_ ⊢
    have hX := (hb_.block _ (by omega : qB < g)).trans X_U0.out
    have X_U1 := Lib.hid hX
    have HN_U1 := Lib.hid hn_
    have zwg : w.heap.size ≤ g := by have := H_U0.out.size; omega
    have zg_U1 : g < U1.heap.size := (Array.getElem?_eq_some_iff.1 hn_).1
    have z_U1 : qB < U1.heap.size := by omega
    have H_U1 : Hid (Below w.heap.size w U1) := Lib.hid (H_U0.out.trans (hb_.mono (by omega)))
    refine hK _ _ (fun q => cellB hX q) ?_
    clear hK K hX hw_ hg_ hn_ hb_
    (try simp only [Act.put, List.setIfInBounds_toArray, List.set_cons_zero, List.set_cons_succ])
    refine tree_keep rfl rfl (by rfl) (fun K hK => ?_)
    go_simp
    refine (es_call HG.out.1 (ES.nil U1 U1.heap.size) (Nat.le_refl _) (us := []) .nil).mono ?_
    rintro e U2 ⟨m7, u, rfl, hu, -, he, hb1⟩
    obtain ⟨vs, hv, rfl⟩ := hu.agg_inv
    obtain ⟨qv, cv, rfl, hq, hc⟩ := hv.two_inv
    have HQC := Lib.hid (And.intro hq hc)
    obtain ⟨p1, e1, -, rfl⟩ := hq.known_inv
    obtain ⟨p4, e4, -, rfl⟩ := hc.known_inv
    have hX := (hb1.block _ z_U1).trans X_U1.out
    have X_U2 := Lib.hid hX
    have z_U2 : qB < U2.heap.size := Nat.lt_of_lt_of_le z_U1 hb1.size
    have H_U2 : Hid (Below w.heap.size w U2) := Lib.hid (H_U1.out.trans (hb1.mono (by omega)))
    have HE := Lib.hid he
    have zv := hb1.size
    have HNL : Hid (¬ live m7 sG.H g) := Lib.hid (fun h => by have := HE.out.lo _ h; omega)
    have HES : Hid (ES m7 sG U2 g) := Lib.hid (HE.out.mono (by omega))
    have HNG : Hid (U2.heap[g]? = some (.cells memC.toArray 3 (0, 0))) := Lib.hid ((hb1.block _ zg_U1).trans HN_U1.out)
    refine hK _ _ (fun q => cellB hX q) ?_
    clear hK K hX hb1 hu hv hq hc he e1 e4
    (try simp only [Act.put, List.setIfInBounds_toArray, List.set_cons_zero, List.set_cons_succ])
    (refine tree_held rfl (by decide) (by rfl) (fun w1 hS => by (try (have hS := hS rfl)); go_simp; rfl) ?_; (try simp only [Act.put, List.setIfInBounds_toArray, List.set_cons_zero, List.set_cons_succ]))
    refine tree_late rfl rfl (by rfl) (fun K hK => ?_)
    go_simp
    refine (es_call HG.out.2 (HES.out.add HNG.out HNL.out (Nat.le_refl _)) (by omega) (us := [.agg #[.slice (some ⟨p1.b, p1.o + 0, none⟩) 3 3, .slice (some ⟨p4.b, p4.o + 0, none⟩) 2 2, .slice none 0 0, .slice none 0 0], reqV, .slice (some ⟨g, 0 + 0, none⟩) 2 2]) (.cons (.agg (.cons (HQC.out.1.mono (le_upd (HES.out.fresh _ (Nat.le_refl _)))) (.cons (HQC.out.2.mono (le_upd (HES.out.fresh _ (Nat.le_refl _)))) (.cons (.val _) (.cons (.val _) .nil))))) (.cons (.val _) (.cons (.known (upd_at _ _ _) (Nat.le_refl _)) .nil)))).mono ?_
    rintro e V9 ⟨m8, u, rfl, hu, -, -, hb9⟩
    obtain ⟨vs, hv, rfl⟩ := hu.tup_inv
    obtain ⟨a, vt, rfl, ha, ht⟩ := rv_cons hv
    obtain ⟨b, c, rfl, hb, hc⟩ := ht.two_inv
    obtain rfl := hc.val_inv
    obtain ⟨pa, ac, -, -, rfl⟩ := ha.slice_inv
    obtain ⟨pb, bc, -, -, rfl⟩ := hb.slice_inv
    have H_9 : Hid (Below w.heap.size w V9) := Lib.hid (H_U2.out.trans (hb9.mono (by omega)))
    refine hK _ _ ?_
    clear hK K hu hv ha ht hb hc hb9
    (try simp only [Act.put, List.setIfInBounds_toArray, List.set_cons_zero, List.set_cons_succ])
    (refine tree_held rfl (by decide) (by rfl) (fun w1 hS => by (try (have hS := hS rfl)); go_simp; rfl) ?_; (try simp only [Act.put, List.setIfInBounds_toArray, List.set_cons_zero, List.set_cons_succ]))
    (refine tree_held rfl (by decide) (by rfl) (fun w1 hS => by (try (have hS := hS rfl)); go_simp; rfl) ?_; (try simp only [Act.put, List.setIfInBounds_toArray, List.set_cons_zero, List.set_cons_succ]))
    (refine tree_held rfl (by decide) (by rfl) (fun w1 hS => by (try (have hS := hS rfl)); go_simp; rfl) ?_; (try simp only [Act.put, List.setIfInBounds_toArray, List.set_cons_zero, List.set_cons_succ]))
    (refine tree_held rfl (by decide) (by rfl) (fun w1 hS => by (try (have hS := hS rfl)); go_simp; rfl) ?_; (try simp only [Act.put, List.setIfInBounds_toArray, List.set_cons_zero, List.set_cons_succ]))
    (refine tree_held rfl (by decide) (by rfl) (fun w1 hS => by (try (have hS := hS rfl)); go_simp; rfl) ?_; (try simp only [Act.put, List.setIfInBounds_toArray, List.set_cons_zero, List.set_cons_succ]))
    (refine tree_held rfl (by decide) (by rfl) (fun w1 hS => by (try (have hS := hS rfl)); go_simp; rfl) ?_; (try simp only [Act.put, List.setIfInBounds_toArray, List.set_cons_zero, List.set_cons_succ]))
    (refine tree_held rfl (by decide) (by rfl) (fun w1 hS => by (try (have hS := hS rfl)); go_simp; rfl) ?_; (try simp only [Act.put, List.setIfInBounds_toArray, List.set_cons_zero, List.set_cons_succ]))
    refine tree_fin ?_
  all_goals
    clear X_U0 X_U1 X_U2 z_U0 z_U1 z_U2 H_U0 H_U1 H_U2 HE HES HNL HNG HQC zv
    go_upto_region 8 with fail
    obtain ⟨w7, hw7⟩ : ∃ q, V9.alloc (.cells #[.int .i64 1, .int .i64 0, .int .i64 0, .int .i64 0, .int .i64 0, .int .i64 1, .int .i64 2, .int .i64 9, .int .i64 0, .int .i64 0, .slice none 0 0, .string ⟨#[104, 105]⟩] 32) = q := ⟨_, rfl⟩
    rw [hw7]
    obtain ⟨bB, hg, hn, hbb⟩ := al_facts hw7
    rw [hg] at hbb ⊢
    have zb : w.heap.size ≤ bB := by rw [← hg]; exact H_9.out.size
    have H10 : Hid (Below w.heap.size w w7) := Lib.hid (H_9.out.trans (hbb.mono zb))
    have X10 := Lib.hid hn
    have z10 : bB < w7.heap.size := (Array.getElem?_eq_some_iff.1 hn).1
    clear hw7 hg hn hbb H_9
    have c10 := fun q => cellB X10.out q
    go_wp2_with fail
    refine (es_call HR.out.1 (ES.nil w7 w7.heap.size) (Nat.le_refl _) (us := [bunV, .int .i64 1, keyV]) (.cons (.val _) (.cons (.val _) (.cons (.val _) .nil)))).mono ?_
    rintro e V10 ⟨mR, u, rfl, hu, -, he, hb10⟩
    obtain ⟨vs, hv, rfl⟩ := hu.tup_inv
    obtain ⟨bw, b, rfl, ha, hb⟩ := hv.two_inv
    obtain rfl := hb.val_inv
    obtain ⟨vt, ht, rfl⟩ := ha.agg_inv
    obtain ⟨y0, v0, rfl, k0, ht0⟩ := rv_cons ht
    obtain ⟨y1, v1, rfl, k1, ht1⟩ := rv_cons ht0
    obtain ⟨y2, v2, rfl, k2, ht2⟩ := rv_cons ht1
    obtain ⟨y3, v3, rfl, k3, ht3⟩ := rv_cons ht2
    obtain ⟨y4, v4, rfl, k4, ht4⟩ := rv_cons ht3
    obtain ⟨y5, v5, rfl, k5, ht5⟩ := rv_cons ht4
    obtain ⟨y6, v6, rfl, k6, ht6⟩ := rv_cons ht5
    obtain ⟨y7, v7, rfl, k7, ht7⟩ := rv_cons ht6
    obtain ⟨y8, v8, rfl, k8, ht8⟩ := rv_cons ht7
    obtain ⟨y9, v9, rfl, k9, ht9⟩ := rv_cons ht8
    obtain ⟨y10, v10, rfl, k10, ht10⟩ := rv_cons ht9
    obtain ⟨y11, v11, rfl, k11, ht11⟩ := rv_cons ht10
    obtain rfl := rv_nil ht11
    obtain rfl := k0.val_inv
    obtain rfl := k1.val_inv
    obtain rfl := k2.val_inv
    obtain rfl := k3.val_inv
    obtain rfl := k4.val_inv
    obtain rfl := k5.val_inv
    obtain rfl := k6.val_inv
    obtain rfl := k7.val_inv
    obtain rfl := k8.val_inv
    obtain rfl := k9.val_inv
    obtain rfl := k11.val_inv
    obtain ⟨p, c, e0, el, er, rfl⟩ := k10.opened_inv
    have X11 := Lib.hid ((hb10.block _ z10).trans X10.out)
    have z11 : bB < V10.heap.size := Nat.lt_of_lt_of_le z10 hb10.size
    have H11 : Hid (Below w.heap.size w V10) := Lib.hid (H10.out.trans (hb10.mono (by omega)))
    have HE := Lib.hid he
    have HPL := Lib.hid (And.intro e0 (And.intro el er))
    have zv := hb10.size
    clear hu hv ha hb ht he hb10 c10 X10 H10 e0 el er ht0 ht1 ht2 ht3 ht4 ht5 ht6 ht7 ht8 ht9 ht10 k10
    go_wp2_with (refine wpList_store_block rfl 32 _ _ rfl bB #[.int .i64 1, .int .i64 0, .int .i64 0, .int .i64 0, .int .i64 0, .int .i64 1, .int .i64 2, .int .i64 9, .int .i64 0, .int .i64 0, .slice (some ⟨p.b, p.o + 0, none⟩) 1 c, .string ⟨#[104, 105]⟩] #[.int .i64 1, .int .i64 0, .int .i64 0, .int .i64 0, .int .i64 0, .int .i64 1, .int .i64 2, .int .i64 9, .int .i64 0, .int .i64 0, .slice none 0 0, .string ⟨#[104, 105]⟩] 32 rfl rfl X11.out rfl (by kernel_rfl) (by simp [Value.oneCell']) ?_; intro W11 hW hbW hsW hoW; have X12 := Lib.hid hW; have H12 : Hid (Below w.heap.size w W11) := Lib.hid (H11.out.trans (hbW w.heap.size (by omega))); have HE12 : Hid (ES mR sR W11 w7.heap.size) := Lib.hid (HE.out.keep fun b h1 h2 => hoW b (by omega)); have z12 : bB < W11.heap.size := (Array.getElem?_eq_some_iff.1 hW).1; have zV : w7.heap.size ≤ W11.heap.size := (by rw [hsW]; exact zv); have c12 := fun q => cellB X12.out q; clear hW hbW hsW hoW X11 H11 HE)
    refine (es_call HV.out.1 (HE12.out.one HR.out.2) zV (us := [.agg #[.int .i64 1, .int .i64 0, .int .i64 0, .int .i64 0, .int .i64 0, .int .i64 1, .int .i64 2, .int .i64 9, .int .i64 0, .int .i64 0, .slice (some ⟨p.b, p.o + 0, none⟩) 1 c, .string ⟨#[104, 105]⟩], .int .i64 1, keyV]) (.cons (.agg (.cons (.val _) (.cons (.val _) (.cons (.val _) (.cons (.val _) (.cons (.val _) (.cons (.val _) (.cons (.val _) (.cons (.val _) (.cons (.val _) (.cons (.val _) (.cons (.opened (by simpa using HPL.out.1) HPL.out.2.1 HPL.out.2.2) (.cons (.val _) .nil))))))))))))) (.cons (.val _) (.cons (.val _) .nil)))).mono ?_
    rintro e W12 ⟨mV, u, rfl, hu, hle, he, hb12⟩
    obtain rfl := hu.val_inv
    have X13 := Lib.hid ((hb12.block _ z10).trans X12.out)
    have z13 : bB < W12.heap.size := Nat.lt_of_lt_of_le z12 hb12.size
    have H13 : Hid (Below w.heap.size w W12) := Lib.hid (H12.out.trans (hb12.mono (by omega)))
    have HE13 := Lib.hid he
    have HP13 : Hid (mV 0 = some p) := Lib.hid (hle 0 p (by simpa using HPL.out.1))
    have zV2 : w7.heap.size ≤ W12.heap.size := Nat.le_trans zV hb12.size
    clear hu hle he hb12 c12 X12 H12 HE12 z12
    have c13 := fun q => cellB X13.out q
    go_wp2_with fail
    refine (es_call HV.out.2.2 (HE13.out.one HV.out.2.1) zV2 (us := [.agg #[.int .i64 1, .int .i64 0, .int .i64 0, .int .i64 0, .int .i64 0, .int .i64 1, .int .i64 2, .int .i64 9, .int .i64 0, .int .i64 0, .slice (some ⟨p.b, p.o + 0, none⟩) 1 c, .string ⟨#[104, 105]⟩], .int .i64 1, kegV]) (.cons (.agg (.cons (.val _) (.cons (.val _) (.cons (.val _) (.cons (.val _) (.cons (.val _) (.cons (.val _) (.cons (.val _) (.cons (.val _) (.cons (.val _) (.cons (.val _) (.cons (.opened (by simpa using HP13.out) HPL.out.2.1 HPL.out.2.2) (.cons (.val _) .nil))))))))))))) (.cons (.val _) (.cons (.val _) .nil)))).mono ?_
    rintro e W13 ⟨mW, u, rfl, hu, -, -, hb13⟩
    obtain rfl := hu.val_inv
    have H14 : Hid (Below w.heap.size w W13) := Lib.hid (H13.out.trans (hb13.mono (by omega)))
    clear hu hb13 c13
    go_wp2
    go_ret
    exact ⟨rfl, H14.out⟩
end Go.Proofs.YtmknchdciblfjaaGreat
