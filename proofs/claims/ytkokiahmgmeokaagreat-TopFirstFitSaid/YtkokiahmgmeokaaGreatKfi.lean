/- SortFunc over labels. -/
import Derived.BigQuiet
import Derived.BigRegion
import Derived.Deep.DeepCutAuto
import Derived.Deep.CutBlock
import Derived.Lib.AppendIntMem
import Derived.Test.YtkokiahmgmeokaaGreatYs
import Derived.Test.YtkokiahmgmeokaaGreatKfez
set_option linter.unusedVariables false
set_option linter.unusedSimpArgs false
namespace Go.Proofs.YtkokiahmgmeokaaGreat
open Go Go.RowKit Iv
attribute [local go_sem] Oper.semAt_some
attribute [local go_sem] B_getElem B_size B_app B_extract B_get B_toList
instance : Inhabited Lbl := ⟨⟨0, 0, 0, 0⟩⟩
open Go.Sort in
def GrowF (w w' : World) : Prop := ∃ q os', w' = grow (w.drewN q) os'
theorem GrowF.refl (w : World) : GrowF w w := ⟨0, #[], by unfold Go.Sort.grow; simp [World.drewN]⟩
theorem GrowF.alloc {w w' : World} (h : GrowF w w') (o : Obj) : GrowF w (w'.alloc o) := by
  obtain ⟨q, os, rfl⟩ := h
  exact ⟨q, os ++ #[o], by rw [Go.Sort.alloc_eq_grow, Go.Sort.grow_grow]⟩
theorem GrowF.drew {w w' : World} (h : GrowF w w') : GrowF w w'.drew := by
  obtain ⟨q, os, rfl⟩ := h
  exact ⟨q + 1, os, rfl⟩
theorem ltL (x y : Lbl) : Go.Proofs.ltOf cmpL x y = decide (x.tm < y.tm ∨ (x.tm = y.tm ∧ (x.nd < y.nd ∨ (x.nd = y.nd ∧ x.fr < y.fr)))) := by
  unfold Go.Proofs.ltOf cmpL
  have h0 : (cmpI x.tm y.tm < 0 ↔ x.tm < y.tm) ∧ (cmpI x.tm y.tm = 0 ↔ x.tm = y.tm) := ⟨by unfold cmpI; split <;> (try split) <;> omega, cmpI_zero⟩
  have h1 : (cmpI x.nd y.nd < 0 ↔ x.nd < y.nd) ∧ (cmpI x.nd y.nd = 0 ↔ x.nd = y.nd) := ⟨by unfold cmpI; split <;> (try split) <;> omega, cmpI_zero⟩
  have h2 : (cmpI x.fr y.fr < 0 ↔ x.fr < y.fr) ∧ (cmpI x.fr y.fr = 0 ↔ x.fr = y.fr) := ⟨by unfold cmpI; split <;> (try split) <;> omega, cmpI_zero⟩
  generalize cmpI x.tm y.tm = c0 at *
  generalize cmpI x.nd y.nd = c1 at *
  generalize cmpI x.fr y.fr = c2 at *
  simp only [orL]
  apply decide_eq_decide.2
  split
  · split
    · split <;> omega
    · omega
  · omega
theorem swoL : Go.Sort.SWO (Go.Proofs.ltOf cmpL) where
  irrefl x := by rw [ltL]; simp
  trans x y z h1 h2 := by rw [ltL] at *; simp only [decide_eq_true_eq] at *; omega
  ntrans x y z h1 h2 := by rw [ltL] at *; simp only [decide_eq_false_iff_not] at *; omega
set_option maxRecDepth 100000 in
set_option maxHeartbeats 4000000 in
theorem lcmpg_any (a b : Lbl) (w : World) : Calls Tryz.prog 63 #[.agg #[.int .i64 a.nd, .int .i64 a.fr, .int .i64 a.tt, .int .i64 a.tm], .agg #[.int .i64 b.nd, .int .i64 b.fr, .int .i64 b.tt, .int .i64 b.tm]] w fun e w' => e = .returned (.int .i64 (cmpL a b)) ∧ GrowF w w' := by
  obtain ⟨c0, hc0⟩ : ∃ c, cmpI a.tm b.tm = c := ⟨_, rfl⟩
  obtain ⟨c1, hc1⟩ : ∃ c, cmpI a.nd b.nd = c := ⟨_, rfl⟩
  obtain ⟨c2, hc2⟩ : ∃ c, cmpI a.fr b.fr = c := ⟨_, rfl⟩
  obtain ⟨r, hr⟩ : ∃ c, orL [c0, c1, c2] = c := ⟨_, rfl⟩
  rw [show cmpL a b = r from by unfold cmpL; rw [hc0, hc1, hc2, hr]]
  have HC0 := Lib.hid hc0
  have HC1 := Lib.hid hc1
  have HC2 := Lib.hid hc2
  have HR := Lib.hid hr
  clear hr hc0 hc1 hc2
  go_enter Tryz.func63, Tryz.ntmps63
  go_upto_region 1 with fail
  obtain ⟨W, hW⟩ : ∃ q, (w.alloc (.cells #[.int .i64 a.nd, .int .i64 a.fr, .int .i64 a.tt, .int .i64 a.tm] 129)).alloc (.cells #[.int .i64 b.nd, .int .i64 b.fr, .int .i64 b.tt, .int .i64 b.tm] 129) = q := ⟨_, rfl⟩
  rw [hW]
  have hG : GrowF w W := by rw [← hW]; exact ((GrowF.refl w).alloc _).alloc _
  have HGW := Lib.hid hG
  clear hG
  have GA : W.heap[w.heap.size]? = some (.cells #[.int .i64 a.nd, .int .i64 a.fr, .int .i64 a.tt, .int .i64 a.tm] 129 (0, 0)) := by rw [← hW]; exact (Below.heap_alloc _ _ _ (by simp)).trans heap_new
  have GB : W.heap[w.heap.size + 1]? = some (.cells #[.int .i64 b.nd, .int .i64 b.fr, .int .i64 b.tt, .int .i64 b.tm] 129 (0, 0)) := by rw [← hW]; exact heap_new' (by simp)
  have hB : Below w.heap.size w W := by rw [← hW]; exact belowA
  have zW : w.heap.size + 1 < W.heap.size := by rw [← hW]; simp
  clear hW
  have ca := fun o => cellB GA o
  have cb := fun o => cellB GB o
  refine wp_region_plan (fun V => (∀ o, V.cell? ⟨w.heap.size, o, none⟩ = (#[.int .i64 a.nd, .int .i64 a.fr, .int .i64 a.tt, .int .i64 a.tm])[o]?) ∧ (∀ o, V.cell? ⟨w.heap.size + 1, o, none⟩ = (#[.int .i64 b.nd, .int .i64 b.fr, .int .i64 b.tt, .int .i64 b.tm])[o]?)) [0, 1, 0, 1, 2, 0, 1, 0, 1, 2, 0, 1, 0, 1, 3, 3, 3, 0] [0, 1, 2, 3, 5, 6, 7, 8, 10, 11, 12, 13, 4, 9, 14, 15, 16, 17] (by kernel_rfl) (by kernel_rfl) ?_ ?_
  case refine_1 => exact ⟨ca, cb⟩
  (iterate 12 (refine plan_held rfl (by decide) (by rfl) (fun w1 hS => by (try (have hS := hS rfl; obtain hS := hS; repeat (obtain ⟨_, hS⟩ := hS))); go_simp; rfl) ?_; simp only [Act.put, List.setIfInBounds_toArray, List.set_cons_zero, List.set_cons_succ]))
  (refine plan_keep rfl rfl (by rfl) (fun K hK => ?_); go_simp)
  refine (ccompare_any a.tm b.tm _).mono ?_
  rw [HC0.out]
  rintro e w3 ⟨rfl, rfl⟩
  (refine hK _ _ (by exact ⟨ca, cb⟩) ?_; clear hK K; (try simp only [Act.put, List.setIfInBounds_toArray, List.set_cons_zero, List.set_cons_succ]))
  (refine plan_keep rfl rfl (by rfl) (fun K hK => ?_); go_simp)
  refine (ccompare_any a.nd b.nd _).mono ?_
  rw [HC1.out]
  rintro e w3 ⟨rfl, rfl⟩
  (refine hK _ _ (by exact ⟨ca, cb⟩) ?_; clear hK K; (try simp only [Act.put, List.setIfInBounds_toArray, List.set_cons_zero, List.set_cons_succ]))
  (refine plan_late rfl rfl (by rfl) (fun K hK => ?_); go_simp)
  refine (ccompare_any a.fr b.fr _).mono ?_
  rw [HC2.out]
  rintro e w3 ⟨rfl, rfl⟩
  (refine hK _ _ ?_; clear hK K; (try simp only [Act.put, List.setIfInBounds_toArray, List.set_cons_zero, List.set_cons_succ]))
  (refine plan_late rfl rfl (by rfl) (fun K hK => ?_); go_simp)
  (refine hK _ _ ?_; clear hK K; (try simp only [Act.put, List.setIfInBounds_toArray, List.set_cons_zero, List.set_cons_succ]))
  (refine plan_late rfl rfl (by rfl) (fun K hK => ?_); go_simp)
  refine (cor_any [c0, c1, c2] _ _ (RRow.ints (l := [c0, c1, c2]) (t := 3) ?_ rfl ?_ (by simp))).mono ?_
  · exact heap_new
  · simp
  rw [HR.out]
  rintro e w8 ⟨rfl, rfl⟩
  (refine hK _ _ ?_; clear hK K; (try simp only [Act.put, List.setIfInBounds_toArray, List.set_cons_zero, List.set_cons_succ]))
  (iterate 1 (refine plan_held rfl (by decide) (by rfl) (fun w1 hS => by (try (have hS := hS rfl; obtain hS := hS; repeat (obtain ⟨_, hS⟩ := hS))); go_simp; rfl) ?_; simp only [Act.put, List.setIfInBounds_toArray, List.set_cons_zero, List.set_cons_succ]))
  refine plan_done ?_
  go_wp2
  go_ret
  exact ⟨rfl, by repeat (first | exact HGW.out | refine GrowF.alloc ?_ _ | refine GrowF.drew ?_)⟩
theorem lblC_get (x : Lbl) (k : Nat) (hk : k < 4) : (lblC x)[k]? = some (lblC x)[k]! := by
  rcases (by omega : k = 0 ∨ k = 1 ∨ k = 2 ∨ k = 3) with rfl | rfl | rfl | rfl <;> rfl
open Go.Sort in
theorem holds_lbs {w : World} {base g c : Nat} {M : List Lbl} {e : TypeId} (ho : w.ownsRow base e 4 (.slice (some ⟨g, 0, none⟩) M.length c) M.length (lbs M)) : HoldsK lblC 4 w g 0 M.toArray := by
  intro j hj
  have hj2 : j < M.length * 4 := by simpa using hj
  refine ⟨?_, by have := ho.frozenAt (g := g) j; simpa using this⟩
  have hx : M[j / 4]? = some M[j / 4]! := by
    rw [List.getElem?_eq_getElem (by omega), getElem!_pos M _ (by omega)]
  have hg := lbs_get M (j / 4) (j % 4) (by omega) hx
  rw [show j / 4 * 4 + j % 4 = j by omega] at hg
  have h2 : (lbs M)[j]? = some ((lblC M[j / 4]!)[j % 4]!) := by
    rw [hg]
    exact lblC_get _ _ (by omega)
  have := ho.cells (g := g) rfl j _ h2
  rw [addN] at this
  rw [this]
  have := get_flatK lblC 4 M.toArray j (by simpa using hj2)
  rw [id, this]
  simp
def SortlPost (M : List Lbl) (u : Value) (B : Nat) (w : World) (e : Ending) (w' : World) : Prop := e = .returned (.tuple #[]) ∧ ∃ M' : List Lbl, M'.Perm M ∧ RRow lblC 4 w' w'.heap.size u M' ∧ Below B w w' ∧ ∀ q, q < w.heap.size → u.ownBlock ≠ some q → w'.heap[q]? = w.heap[q]?
open Go.Sort Go.Shelf in
theorem sortl_any (M : List Lbl) (u : Value) (base : Nat) (w : World) (ho : w.ownsRow base 129 4 u M.length (lbs M)) (hl : M.length ≤ 1000000000000) (hB : base ≤ w.heap.size) :
    Calls Tryz.prog 69 #[u, .func (.func 63) #[] #[]] w (SortlPost M u base w) := by
  cases hM : M with
  | nil =>
    subst hM
    obtain ⟨a, c, rfl⟩ := own_shape ho
    exact (Tryz.slices_SortFunc_none a c _ w).mono fun e w' ⟨h1, h2⟩ => ⟨h1, [], List.Perm.refl _, by rw [h2]; exact RRow.of_lbs ho, by rw [h2]; exact Below.refl _ _, fun q _ _ => by rw [h2]⟩
  | cons x r =>
    have hp : 0 < M.length := by rw [hM]; simp
    rw [← hM]
    clear hM
    obtain ⟨g, c, rfl⟩ := own_form ho hp
    have hgl := (ho.lt g rfl).2
    have hgb := (ho.lt g rfl).1
    have hcc : M.length ≤ c ∧ c ≤ maxLen := by
      rcases ho.2 with ⟨h0, _⟩ | ⟨g', cap, cur, h0, hb, hg, hn, hm, _⟩
      · cases h0
      · injection h0 with h0 h1 h2
        subst h2
        exact ⟨hn, hm⟩
    have hH := holds_lbs ho
    have hcon := AnyQ.slices_SortFunc Tryz.laysF06_f69 4 Tryz.isAgg129 Tryz.sizeOf129 lblC lblC_len (fun x v hv => by simp [lblC] at hv; rcases hv with rfl | rfl | rfl | rfl <;> rfl) cmpL swoL 63 #[] g 0 c M.toArray w
      (enters_of Tryz.func63 (by kernel_rfl) rfl) (fun _ _ _ _ x y => lcmpg_any x y _) hH hgl (by simp; omega)
    refine Calls.mono hcon ?_
    rintro e w' ⟨rfl, d', n, os, hp1, hs1, rfl⟩
    have hsz : d'.size = M.toArray.size := hp1.1
    have hszM : d'.size = M.length := by simpa using hsz
    have h1 : d'.toList.Perm M := by
      have := hp1.2.2
      have e1 : d'.extract 0 M.toArray.size = d' := by rw [← hp1.1]; simp
      rw [e1] at this
      simpa using this
    have hkeep : ∀ q, q < w.heap.size → q ≠ g → (grow (putRowK lblC 4 (Sort.ahead w n) g 0 d') os).heap[q]? = w.heap[q]? := by
      intro q hq hne
      refine (heap_grow_old _ _ (by rw [size_putRowK]; exact hq)).trans ?_
      unfold putRowK putRow mapBlock
      rw [Array.getElem?_modify, if_neg (Ne.symm hne)]
      rfl
    refine ⟨rfl, d'.toList, h1, ?_, ?_, fun q hq hne => hkeep q hq (fun e => hne (by rw [e]; rfl))⟩
    · have hput := holdsK_putRowK (enc := lblC) (k := 4) (Sort.ahead w n) g 0 _ d' (holdsK_ahead _ _ _ n _ _ _ hH) hsz
      have hgl2 : g < (putRowK lblC 4 (Sort.ahead w n) g 0 d').heap.size := by rw [size_putRowK]; exact hgl
      have hgrow := holdsK_grow (enc := lblC) (k := 4) _ os g 0 _ hgl2 hput
      refine ⟨some ⟨g, 0, none⟩, c, by simp [hszM], by simpa [hszM] using hcc.1, hcc.2, (fun h => by cases h), fun _ => ⟨g, 0, rfl, by show g < (grow _ os).heap.size; unfold grow; simp only [Array.size_append]; omega, fun i x hx j v hv => ?_⟩⟩
      have hi : i < d'.size := by simpa using (List.getElem?_eq_some_iff.1 hx).1
      have hj : j < 4 := by have := (List.getElem?_eq_some_iff.1 hv).1; rwa [lblC_len] at this
      have h2 := (hgrow (i * 4 + j) (by rw [size_flatK]; omega)).1
      rw [get_flatK lblC 4 d' _ (by omega), show (i * 4 + j) / 4 = i by omega, show (i * 4 + j) % 4 = j by omega] at h2
      have hx' : d'[i]! = x := by
        rw [getElem!_pos d' i hi]
        have := (List.getElem?_eq_some_iff.1 hx).2
        simpa using this
      rw [hx'] at h2
      rw [show 0 + i * 4 + j = 0 + (i * 4 + j) by omega]
      refine h2.trans ?_
      have := lblC_get x j hj
      rw [hv] at this
      rw [id]
      exact this.symm
    · refine ⟨rfl, rfl, rfl, ?_, fun k hk => ?_⟩
      · show w.heap.size ≤ (grow (putRowK lblC 4 (Sort.ahead w n) g 0 d') os).heap.size
        unfold grow
        simp only [Array.size_append, size_putRowK]
        show w.heap.size ≤ w.heap.size + _
        omega
      · exact hkeep k (by omega) (by omega)
end Go.Proofs.YtkokiahmgmeokaaGreat
