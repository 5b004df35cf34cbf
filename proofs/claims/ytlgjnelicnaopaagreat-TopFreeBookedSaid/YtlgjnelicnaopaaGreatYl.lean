/- slices.Collect, SortFunc, SortedFunc over spans. -/
import Derived.BigQuiet
import Derived.BigRegion
import Derived.Deep.DeepCutAuto
import Derived.Deep.CutBlock
import Derived.Lib.AppendIntMem
import Derived.Test.YtlgjnelicnaopaaGreatYs
import Derived.Test.YtlgjnelicnaopaaGreatYk
import Derived.Test.YtlgjnelicnaopaaGreatYd
set_option linter.unusedVariables false
set_option linter.unusedSimpArgs false
namespace Go.Proofs.YtlgjnelicnaopaaGreat
open Go Go.RowKit Iv
attribute [local go_sem] Oper.semAt_some
attribute [local go_sem] B_getElem B_size B_app B_extract B_get B_toList

open Go.Sort in
theorem perm_uniq : ∀ {m l : List Sp}, l.Perm m → l.Pairwise (fun x y => x.1 ≤ y.1) → m.Pairwise (fun x y => x.1 < y.1) → l = m
  | [], l, h, _, _ => List.Perm.eq_nil h
  | y :: m, l, h, h1, h2 => by
    cases l with
    | nil => exact absurd h.symm.eq_nil (by simp)
    | cons x l =>
      have hx : x ∈ y :: m := h.subset (by simp)
      have hy : y ∈ x :: l := h.symm.subset (by simp)
      have e : x = y := by
        rcases List.mem_cons.1 hx with e | hx'
        · exact e
        · have a1 := (List.pairwise_cons.1 h2).1 x hx'
          rcases List.mem_cons.1 hy with e | hy'
          · exact e.symm
          · have a2 := (List.pairwise_cons.1 h1).1 y hy'
            omega
      subst e
      rw [perm_uniq (List.Perm.cons_inv h) (List.pairwise_cons.1 h1).2 (List.pairwise_cons.1 h2).2]
def cfS (x y : Sp) : Int := cmpI x.1 y.1
theorem ltS (x y : Sp) : Go.Proofs.ltOf cfS x y = decide (x.1 < y.1) := by
  unfold Go.Proofs.ltOf cfS cmpI
  by_cases h1 : x.1 < y.1
  · simp [h1]
  · by_cases h2 : y.1 < x.1 <;> simp [h1, h2]
theorem swoS : Go.Sort.SWO (Go.Proofs.ltOf cfS) where
  irrefl x := by rw [ltS]; simp
  trans x y z h1 h2 := by rw [ltS] at *; simp at *; omega
  ntrans x y z h1 h2 := by rw [ltS] at *; simp at *; omega
open Go.Sort Go.Shelf in
theorem ncmp_any (x y : Sp) (W : World) : Calls Tryz.prog 29 #[.agg #[.int .i64 x.1, .int .i64 x.2], .agg #[.int .i64 y.1, .int .i64 y.2]] W fun e w' => e = .returned (.int .i64 (cfS x y)) ∧ ∃ q os', w' = grow (W.drewN q) os' := by
  obtain ⟨r, hr⟩ : ∃ r, cfS x y = r := ⟨_, rfl⟩
  have HR : Hid (cmpI x.1 y.1 = r) := Lib.hid hr
  rw [hr]
  clear hr
  go_enter Tryz.func29, Tryz.ntmps29
  go_wp2_with fail
  refine (ccompare_any x.1 y.1 _).mono ?_
  rw [HR.out]
  rintro e w1 ⟨rfl, rfl⟩
  go_wp2
  go_ret
  exact ⟨rfl, 0, _, by rw [alloc_eq_grow, alloc_eq_grow, grow_grow]; rfl⟩
theorem spC_get (x : Sp) (k : Nat) (hk : k < 2) : (spC x)[k]? = some (spC x)[k]! := by
  rcases (by omega : k = 0 ∨ k = 1) with rfl | rfl <;> rfl
open Go.Sort in
theorem holds_own {w : World} {base g c : Nat} {M : List Sp} {e : TypeId} (ho : w.ownsRow base e 2 (.slice (some ⟨g, 0, none⟩) M.length c) M.length (sps M)) : HoldsK spC 2 w g 0 M.toArray := by
  intro j hj
  have hj2 : j < M.length * 2 := by simpa using hj
  refine ⟨?_, by have := ho.frozenAt (g := g) j; simpa using this⟩
  have hg := flat_get spC 2 spC_len M (j / 2) (j % 2) (by omega)
  rw [show j / 2 * 2 + j % 2 = j by omega] at hg
  have hx : M[j / 2]? = some M[j / 2]! := by
    rw [List.getElem?_eq_getElem (by omega), getElem!_pos M _ (by omega)]
  rw [hx] at hg
  have h2 : (sps M)[j]? = some ((spC M[j / 2]!)[j % 2]!) := by
    show (M.flatMap spC)[j]? = _
    rw [hg]
    exact spC_get _ _ (by omega)
  have := ho.cells (g := g) rfl j _ h2
  rw [addN] at this
  rw [this]
  have := get_flatK spC 2 M.toArray j (by simpa using hj2)
  rw [id, this]
  simp
open Go.Sort Go.Shelf in
theorem sortf_any (M : List Sp) (u : Value) (base : Nat) (w : World) (ho : w.ownsRow base 46 2 u M.length (sps M)) (hs : M.Pairwise (fun x y => x.1 < y.1)) (hl : M.length ≤ 1000) :
    Calls Tryz.prog 60 #[u, .func (.func 29) #[] #[]] w fun e w' => e = .returned (.tuple #[]) ∧ Below w.heap.size w w' := by
  cases hM : M with
  | nil =>
    subst hM
    obtain ⟨a, c, rfl⟩ := own_shape ho
    exact (Tryz.slices_SortFunc_none a c _ w).mono fun e w' ⟨h1, h2⟩ => ⟨h1, by rw [h2]; exact Below.refl _ _⟩
  | cons x r =>
    have hp : 0 < M.length := by rw [hM]; simp
    clear hM
    obtain ⟨g, c, rfl⟩ := own_form ho hp
    have hgl := (ho.lt g rfl).2
    have hH := holds_own ho
    have hcon := AnyQ.slices_SortFunc Tryz.laysF06_f60 2 Tryz.isAgg46 Tryz.sizeOf46 spC spC_len (fun x v hv => by simp [spC] at hv; rcases hv with rfl | rfl <;> rfl) cfS swoS 29 #[] g 0 c M.toArray w
      (enters_of Tryz.func29 (by kernel_rfl) rfl) (fun _ _ _ _ x y => ncmp_any x y _) hH hgl (by simp; omega)
    refine Calls.mono hcon ?_
    rintro e w' ⟨rfl, d', n, os, hp1, hs1, rfl⟩
    refine ⟨rfl, ?_⟩
    have hd : d' = M.toArray := by
      have h1 : d'.toList.Perm M := by
        have := hp1.2.2
        have e1 : d'.extract 0 M.toArray.size = d' := by rw [← hp1.1]; simp
        rw [e1] at this
        simpa using this
      have h2 : d'.toList.Pairwise (fun x y => x.1 ≤ y.1) := by
        rw [List.pairwise_iff_getElem]
        intro i j hi hj hij
        have hsz : d'.size = M.toArray.size := hp1.1
        have := hs1 i j (Nat.zero_le _) hij (by rw [← hsz]; simpa using hj)
        rw [ltS] at this
        have hi' : i < d'.size := by simpa using hi
        have hj' : j < d'.size := by simpa using hj
        rw [getElem!_pos d' j hj', getElem!_pos d' i hi'] at this
        have := of_decide_eq_false this
        simp at this ⊢
        omega
      have := perm_uniq h1 h2 hs
      rw [← this]
    rw [hd]
    show Below w.heap.size w (grow (putRowK spC 2 (Sort.ahead w n) g 0 M.toArray) os)
    rw [putRowK_self spC 2 _ _ _ _ (holdsK_ahead spC 2 w n g 0 _ hH)]
    exact Go.Lib.below_grow w.heap.size w (Nat.le_refl _) n os
set_option maxHeartbeats 1000000 in
theorem collect_any (M : List Sp) (a : Option Addr) (c z : Nat) (w : World) (hbox : w.heap[z]? = some (.cells #[.slice a M.length c] 36 (0, 0))) (hr : RSps w w.heap.size (.slice a M.length c) M) (hl : M.length ≤ 1000) :
    Calls Tryz.prog 59 #[.func (.func 61) #[] #[.pointer (some ⟨z, 0, none⟩)]] w (OwnRet M w) := by
  have HR := Lib.hid hr
  have HB := Lib.hid hbox
  clear hr hbox
  go_enter Tryz.func59, Tryz.ntmps59
  go_wp2_with fail
  refine (apseq_any M a c z _ HB.out HR.out hl).mono ?_
  rintro e w1 h1
  obtain ⟨u, rfl, ho, hb⟩ := h1
  have HO := Lib.hid ho
  clear ho
  go_wp2
  go_ret
  exact ⟨_, rfl, HO.out, hb⟩
set_option maxHeartbeats 1000000 in
theorem sortedf_any (M : List Sp) (a : Option Addr) (c z : Nat) (w : World) (hbox : w.heap[z]? = some (.cells #[.slice a M.length c] 36 (0, 0))) (hr : RSps w w.heap.size (.slice a M.length c) M) (hs : M.Pairwise (fun x y => x.1 < y.1)) (hl : M.length ≤ 1000) :
    Calls Tryz.prog 27 #[.func (.func 61) #[] #[.pointer (some ⟨z, 0, none⟩)], .func (.func 29) #[] #[]] w (OwnRet M w) := by
  have HR := Lib.hid hr
  have HB := Lib.hid hbox
  have HS := Lib.hid hs
  clear hr hbox hs
  go_enter Tryz.func27, Tryz.ntmps27
  go_wp2_with fail
  refine (collect_any M a c z _ HB.out HR.out hl).mono ?_
  rintro e w1 h1
  obtain ⟨u, rfl, ho, hb⟩ := h1
  obtain ⟨au, cu, rfl⟩ := own_shape ho
  have HO := Lib.hid ho
  clear ho
  go_wp2_with fail
  refine (sortf_any M _ _ _ HO.out HS.out hl).mono ?_
  rintro e w2 ⟨rfl, hb2⟩
  go_wp2
  go_ret
  exact ⟨_, rfl, own_kept1 HO.out (fun q hq => hb2.block q (HO.out.lt q hq).2), btrans0 hb hb2⟩
end Go.Proofs.YtlgjnelicnaopaaGreat
