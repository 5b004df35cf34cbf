/- Chapter 19: the closures of Groups. -/
import Derived.Test.YtpkklmkeflddkaaGreatRa
import Derived.Test.YtpkklmkeflddkaaGreatRT
import Derived.BigRegion
import Derived.Deep.DeepCutAuto
import Derived.Deep.CutBlock
set_option linter.unusedVariables false
set_option linter.unusedSimpArgs false
namespace Go.Proofs.YtpkklmkeflddkaaGreat
open Go Go.RowKit
attribute [local go_sem] Oper.semAt_some
attribute [local go_sem] B_getElem B_size B_app B_extract B_get B_toList
theorem gr1_pred (l : List Bun) (w : World) (hf : ∀ x ∈ l, Fits x) : PredB 24 #[] (fun x => chkE x != 0) w l := by
  refine ⟨fun _ _ => by kernel_rfl, fun x ux W hx hW hub => ?_⟩
  obtain ⟨ua, uc, rfl, _⟩ := id hub
  have HU := Lib.hid hub
  obtain ⟨E, hE⟩ : ∃ E, chkE x = E := ⟨_, rfl⟩
  have HE := Lib.hid hE
  have HF := Lib.hid (hf x hx)
  show Calls Tryz.prog 24 #[.agg (bunC x (.slice ua x.blocks.length uc)).toArray] W fun e W' => e = .returned (.bool (chkE x != 0)) ∧ Below W.heap.size W W'
  rw [hE]
  clear hub hE hx
  go_enter Tryz.func24, Tryz.ntmps24
  simp only [bunC]
  go_wp2_with fail
  refine (check_any x _ _ (HU.out.below (C := W.heap.size) (by repeat' (first | with_reducible (first | refine bset ?_ ?_ | exact Below.refl _ _ | assumption | refine bdrewN ?_ _ | refine bdrew ?_ | refine balloc0 ?_ | refine balloc ?_ ?_ | (apply btrans0; rotate_left; assumption) | (apply btrans; rotate_left; assumption)) | exact Below.refl _ _ | assumption | (apply btrans0; rotate_left; assumption) | (apply btrans; rotate_left; assumption) | (simp; done) | omega | (simp; omega))) (Nat.le_refl _) (by simp)) HF.out).mono ?_
  rw [HE.out]
  rintro e w1 ⟨rfl, hb1⟩
  go_wp2
  go_ret
  exact ⟨rfl, (by repeat' (first | with_reducible (first | refine bset ?_ ?_ | exact Below.refl _ _ | assumption | refine bdrewN ?_ _ | refine bdrew ?_ | refine balloc0 ?_ | refine balloc ?_ ?_ | (apply btrans0; rotate_left; assumption) | (apply btrans; rotate_left; assumption)) | exact Below.refl _ _ | assumption | (apply btrans0; rotate_left; assumption) | (apply btrans; rotate_left; assumption) | (simp; done) | omega | (simp; omega)))⟩
def GrOk (w : World) (gs : List (List BV)) : Prop := ∀ g ∈ gs, g.length ≤ 64 ∧ ∀ r ∈ g, RBlks w w.heap.size r.2 r.1.blocks ∧ Fits r.1
theorem grow_row {W W1 : World} {g : List BV} {b : Bun} {ub v : Value} {B : Nat} (h : W1.ownsRow B 31 12 v (g.length + 1) (flatU g ++ bunC b ub)) (hk : Below W.heap.size W W1) (hr : ∀ r ∈ g, RBlks W W.heap.size r.2 r.1.blocks) (hb : RBlks W W.heap.size ub b.blocks) : RBuns W1 W1.heap.size v (buns g ++ [b]) := by
  have he : flatU g ++ bunC b ub = (g ++ [(b, ub)]).flatMap fun r => bunC r.1 r.2 := by simp [flatU]
  rw [he] at h
  have := RBuns.of_own h (fun r hr' => by
    rcases List.mem_append.1 hr' with hr' | hr'
    · exact (hr r hr').below' hk
    · simp at hr'
      subst hr'
      exact hb.below' hk)
  simpa [buns] using this
set_option maxRecDepth 100000 in
set_option maxHeartbeats 4000000 in
theorem gr2_pred (b : Bun) (ub : Value) (most : Int) (p q : Nat) (w : World) (gs : List (List BV)) (hp : w.heap[p]? = some (.cells (bunC b ub).toArray 31 (0, 0))) (hub : RBlks w w.heap.size ub b.blocks)
    (hq : w.heap[q]? = some (.cells #[.int .i64 most] 3 (0, 0))) (hf : Fits b) (hgs : GrOk w gs) :
    PredV 28 #[.pointer (some ⟨p, 0, none⟩), .pointer (some ⟨q, 0, none⟩)] (fitB most b) w gs := by
  refine ⟨fun _ _ => by kernel_rfl, fun g x W hg hW hx => ?_⟩
  have zp : p < w.heap.size := by
    rcases Nat.lt_or_ge p w.heap.size with z | z
    · exact z
    · rw [Array.getElem?_eq_none z] at hp; cases hp
  have zq : q < w.heap.size := by
    rcases Nat.lt_or_ge q w.heap.size with z | z
    · exact z
    · rw [Array.getElem?_eq_none z] at hq; cases hq
  have zW := hW.size
  have zpW : p < W.heap.size := by omega
  have zqW : q < W.heap.size := by omega
  obtain ⟨ba, bc, rfl, _⟩ := id hub
  obtain ⟨hgl, hgr⟩ := hgs g hg
  have HP := Lib.hid ((hW.block _ zp).trans hp)
  have HQ := Lib.hid ((hW.block _ zq).trans hq)
  have HUB := Lib.hid (hub.below' hW)
  have HGR := Lib.hid (fun r (hr : r ∈ g) => (hgr r hr).1.below' hW)
  have HS : Hid (∀ r ∈ g, ∃ a n c, r.2 = .slice a n c) := Lib.hid (fun r hr => by obtain ⟨a, c, e, _⟩ := (hgr r hr).1; exact ⟨a, _, c, e⟩)
  have HFT : Hid (∀ y ∈ buns g ++ [b], Fits y) := Lib.hid (fun y hy => by
    rcases List.mem_append.1 hy with hy | hy
    · obtain ⟨r, hr, rfl⟩ := List.mem_map.1 hy
      exact (hgr r hr).2
    · simp at hy; subst hy; exact hf)
  have HLN : Hid ((buns g ++ [b]).length ≤ 20000) := Lib.hid (by simp [buns]; omega)
  have HX := Lib.hid hx
  have HX0 := Lib.hid (fun (V : World) (hV : Below W.heap.size W V) => own_kept1 hx (fun q hq => hV.block q (hx.lt q hq).2))
  obtain ⟨xa, xc, rfl⟩ := own_shape hx
  obtain ⟨L, hL⟩ : ∃ q, buns g ++ [b] = q := ⟨_, rfl⟩
  have hfit : fitB most b (buns g) = (decide (chkJ L = 0) && decide (crtS L < endS L) && decide (((payS L).length : Int) ≤ most)) := by unfold fitB; rw [hL]
  obtain ⟨J, hJ⟩ : ∃ q, chkJ L = q := ⟨_, rfl⟩
  obtain ⟨A, hA⟩ : ∃ q, decide (crtS L < endS L) = q := ⟨_, rfl⟩
  obtain ⟨P, hP⟩ : ∃ q, payS L = q := ⟨_, rfl⟩
  rw [hJ, hA, hP] at hfit
  show Calls Tryz.prog 28 #[.slice xa g.length xc, .pointer (some ⟨p, 0, none⟩), .pointer (some ⟨q, 0, none⟩)] W fun e W' => e = .returned (.bool (fitB most b (buns g))) ∧ Below W.heap.size W W'
  have HFIT := Lib.hid hfit
  have HJ := Lib.hid hJ
  have HA := Lib.hid hA
  have HPY := Lib.hid hP
  have HL := Lib.hid hL
  rw [hL] at HFT HLN
  clear hp hq hub hgs hgr hx hfit hJ hA hP hg hL hf
  have HP' := HP.out
  have cp := fun o => cellB HP' o
  simp only [bunC] at cp
  clear HP'
  rw [HFIT.out]
  obtain ⟨i0, hi, hz0, hz1, hz2⟩ := info_parts infoBun
  go_enter Tryz.func28, Tryz.ntmps28
  go_upto_region 1 with fail
  go_cut [5] (fun s5 wx => RBuns wx wx.heap.size s5 L ∧ Below W.heap.size W wx)
  case first =>
    refine wp_region_tree (fun V => Below W.heap.size W V) [0, 2, 1, 2, 3, 0] (.go 0 (.go 2 (.br2 1 3 (.go 3 (.go 4 (.go 5 .fin))) (.go 1 (.go 4 (.go 5 .fin)))))) (by kernel_rfl) (by kernel_rfl) ?_ ?_
    case refine_1 => exact bdrew (Below.refl _ _)
    iterate 2 (refine tree_held rfl (by decide) (by rfl) (fun w1 hS => by (try (obtain ⟨_, _⟩ := bcell (hS rfl))); go_simp; rfl) ?_; (try simp only [Act.put, List.setIfInBounds_toArray, List.set_cons_zero, List.set_cons_succ]))
    refine ⟨?_, ?_⟩
    · refine tree_op rfl (by rfl) (fun K hK => ?_)
      go_simp
      refine (cloneB_any g _ 0 _ (HX0.out _ (bdrew (Below.refl _ _))) HS.out (by omega)).mono ?_
      unfold CloneBPost
      rintro e w1 ⟨v, rfl, hb1, ho1⟩
      obtain ⟨va, vc, rfl⟩ := own_shape ho1
      have hB1 : Below W.heap.size W w1 := btrans0 (bdrew (Below.refl _ _)) hb1
      have z1 := hB1.size
      refine hK _ _ hB1 ?_
      clear hK K
      (try simp only [Act.put, List.setIfInBounds_toArray, List.set_cons_zero, List.set_cons_succ])
      refine tree_keep rfl rfl (by rfl) (fun K hK => ?_)
      go_simp
      have HB9 : Below W.heap.size W (w1.alloc (.cells (bunC b (.slice ba b.blocks.length bc)).toArray 31)) := balloc0 hB1
      refine hK _ _ HB9 ?_
      clear hK K
      (try simp only [Act.put, List.setIfInBounds_toArray, List.set_cons_zero, List.set_cons_succ])
      refine tree_late rfl rfl (by rfl) (fun K hK => ?_)
      refine wp_append_F _ _ _ _ rfl W.heap.size 31 i0 _ 12 120 Tryz.underlying22 hi hz0 hz1 hz2 rfl (by omega) (.slice va g.length vc) g.length (flatU g) rfl (own_kept1 (own_le ho1 (by simp)) (fun q hq => Below.heap_alloc _ _ _ (ho1.lt q hq).2)) ⟨w1.heap.size, 0, none⟩ 1 1 (bunC b (.slice ba b.blocks.length bc)) rfl rfl (news_one heap_new) (bunC_one rfl) (by simp only [maxLen]; omega) (by omega) (by first | omega | (simp; omega)) (by omega) ?_
      intro x' w8 ho8 hg8 hf8
      have hb8 : Below W.heap.size W w8 := HB9.grown hg8 HB9.size (fun k hk => (ho1.lt k hk).1 |> fun h => by (try simp at h); omega)
      have hr8 := grow_row ho8 hb8 HGR.out HUB.out
      rw [HL.out] at hr8
      obtain ⟨ax', cx', rfl⟩ := own_shape ho8
      clear hg8 hf8
      refine hK _ _ ?_
      clear hK K
      (try simp only [Act.put, List.setIfInBounds_toArray, List.set_cons_zero, List.set_cons_succ])
      (refine tree_held rfl (by decide) (by rfl) (fun w1 hS => by (try (obtain ⟨_, _⟩ := bcell (hS rfl))); go_simp; rfl) ?_; (try simp only [Act.put, List.setIfInBounds_toArray, List.set_cons_zero, List.set_cons_succ]))
      refine tree_fin ?_
      go_wp2_with fail
      go_meet
      exact ⟨hr8, hb8⟩
    · refine tree_op rfl (by rfl) (fun K hK => ?_)
      go_simp
      have hB0 : Below W.heap.size W (W.drew.alloc (.cells (bunC b (.slice ba b.blocks.length bc)).toArray 31)) := balloc0 (bdrew (Below.refl _ _))
      refine hK _ _ hB0 ?_
      clear hK K
      (try simp only [Act.put, List.setIfInBounds_toArray, List.set_cons_zero, List.set_cons_succ])
      refine tree_keep rfl rfl (by rfl) (fun K hK => ?_)
      go_simp
      refine (cloneB_any g _ 0 _ (HX0.out _ hB0) HS.out (by omega)).mono ?_
      unfold CloneBPost
      rintro e w1 ⟨v, rfl, hb1, ho1⟩
      obtain ⟨va, vc, rfl⟩ := own_shape ho1
      have HB9 : Below W.heap.size W w1 := btrans0 hB0 hb1
      have z1 := HB9.size
      have hz9 := hb1.size
      simp at hz9
      refine hK _ _ HB9 ?_
      clear hK K
      (try simp only [Act.put, List.setIfInBounds_toArray, List.set_cons_zero, List.set_cons_succ])
      refine tree_late rfl rfl (by rfl) (fun K hK => ?_)
      refine wp_append_F _ _ _ _ rfl W.heap.size 31 i0 _ 12 120 Tryz.underlying22 hi hz0 hz1 hz2 rfl (by omega) (.slice va g.length vc) g.length (flatU g) rfl (own_le ho1 (by first | (simp; done) | (simp; omega))) ⟨W.heap.size, 0, none⟩ 1 1 (bunC b (.slice ba b.blocks.length bc)) rfl rfl (news_one (t := 31) ((hb1.block _ (by simp)).trans (by exact heap_new))) (bunC_one rfl) (by simp only [maxLen]; omega) (by omega) (by first | omega | (simp; omega)) (by omega) ?_
      intro x' w8 ho8 hg8 hf8
      have hb8 : Below W.heap.size W w8 := HB9.grown hg8 HB9.size (fun k hk => (ho1.lt k hk).1 |> fun h => by (try simp at h); omega)
      have hr8 := grow_row ho8 hb8 HGR.out HUB.out
      rw [HL.out] at hr8
      obtain ⟨ax', cx', rfl⟩ := own_shape ho8
      clear hg8 hf8
      refine hK _ _ ?_
      clear hK K
      (try simp only [Act.put, List.setIfInBounds_toArray, List.set_cons_zero, List.set_cons_succ])
      (refine tree_held rfl (by decide) (by rfl) (fun w1 hS => by (try (obtain ⟨_, _⟩ := bcell (hS rfl))); go_simp; rfl) ?_; (try simp only [Act.put, List.setIfInBounds_toArray, List.set_cons_zero, List.set_cons_succ]))
      refine tree_fin ?_
      go_wp2_with fail
      go_meet
      exact ⟨hr8, hb8⟩
  case rest =>
    obtain ⟨hv, hB⟩ := hcut
    obtain ⟨va, vc, rfl, _⟩ := id hv
    have HV := Lib.hid hv
    have hq5 := cellB ((hB.block _ zqW).trans HQ.out) 0
    have zq5 : q < wc.heap.size := by have := hB.size; omega
    clear hv
    by_cases hJ0 : J = 0
    case neg =>
      have dJ : (J == 0) = false := by rw [beq_eq_false_iff_ne]; exact hJ0
      have HJ0 := Lib.hid hJ0
      clear hJ0
      go_upto_region 2 with fail
      refine wp_region_plan (fun V => Below (wc).heap.size (wc) V) [0, 2, 0, 0, 0, 2, 0, 0, 0, 2, 0, 1, 0, 0, 0] [0, 1, 2, 3, 4, 5, 6, 7, 8, 11, 9, 10, 12, 13, 14] (by kernel_rfl) (by kernel_rfl) ?_ ?_
      case refine_1 => exact (by repeat' (first | with_reducible (first | refine bset ?_ ?_ | exact Below.refl _ _ | assumption | refine bdrewN ?_ _ | refine bdrew ?_ | refine balloc0 ?_ | refine balloc ?_ ?_ | (apply btrans0; rotate_left; assumption) | (apply btrans; rotate_left; assumption)) | exact Below.refl _ _ | assumption | (apply btrans0; rotate_left; assumption) | (apply btrans; rotate_left; assumption) | (simp; done) | omega | (simp; omega)))
      (iterate 1 (first | (refine plan_held rfl (by decide) (by rfl) (fun w1 hS => by (try (obtain ⟨_, _⟩ := bcell (hS rfl))); go_simp; rfl) ?_; simp only [Act.put, List.setIfInBounds_toArray, List.set_cons_zero, List.set_cons_succ]) | (refine plan_skip rfl (by decide) (by rfl) ?_; simp only [Act.put, List.setIfInBounds_toArray, List.set_cons_zero, List.set_cons_succ])))
      (refine plan_keep rfl rfl (by rfl) (fun K hK => ?_); go_simp)
      refine (checkJ_any L _ _ (HV.out.below'' (by repeat' (first | with_reducible (first | refine bset ?_ ?_ | exact Below.refl _ _ | assumption | refine bdrewN ?_ _ | refine bdrew ?_ | refine balloc0 ?_ | refine balloc ?_ ?_ | (apply btrans0; rotate_left; assumption) | (apply btrans; rotate_left; assumption)) | exact Below.refl _ _ | assumption | (apply btrans0; rotate_left; assumption) | (apply btrans; rotate_left; assumption) | (simp; done) | omega | (simp; omega)))) HFT.out).mono ?_
      rw [HJ.out]
      rintro e wc12 ⟨rfl, hbc12⟩
      (refine hK _ _ (by exact (by repeat' (first | with_reducible (first | refine bset ?_ ?_ | exact Below.refl _ _ | assumption | refine bdrewN ?_ _ | refine bdrew ?_ | refine balloc0 ?_ | refine balloc ?_ ?_ | (apply btrans0; rotate_left; assumption) | (apply btrans; rotate_left; assumption)) | exact Below.refl _ _ | assumption | (apply btrans0; rotate_left; assumption) | (apply btrans; rotate_left; assumption) | (simp; done) | omega | (simp; omega)))) ?_; clear hK K; (try simp only [Act.put, List.setIfInBounds_toArray, List.set_cons_zero, List.set_cons_succ]))
      (iterate 3 (first | (refine plan_held rfl (by decide) (by rfl) (fun w1 hS => by (try (obtain ⟨_, _⟩ := bcell (hS rfl))); go_simp; rfl) ?_; simp only [Act.put, List.setIfInBounds_toArray, List.set_cons_zero, List.set_cons_succ]) | (refine plan_skip rfl (by decide) (by rfl) ?_; simp only [Act.put, List.setIfInBounds_toArray, List.set_cons_zero, List.set_cons_succ])))
      (refine plan_skipK rfl (by decide) (by rfl) (by repeat' (first | with_reducible (first | refine bset ?_ ?_ | exact Below.refl _ _ | assumption | refine bdrewN ?_ _ | refine bdrew ?_ | refine balloc0 ?_ | refine balloc ?_ ?_ | (apply btrans0; rotate_left; assumption) | (apply btrans; rotate_left; assumption)) | exact Below.refl _ _ | assumption | (apply btrans0; rotate_left; assumption) | (apply btrans; rotate_left; assumption) | (simp; done) | omega | (simp; omega))) ?_; simp only [Act.put, List.setIfInBounds_toArray, List.set_cons_zero, List.set_cons_succ])
      (iterate 4 (first | (refine plan_held rfl (by decide) (by rfl) (fun w1 hS => by (try (obtain ⟨_, _⟩ := bcell (hS rfl))); go_simp; rfl) ?_; simp only [Act.put, List.setIfInBounds_toArray, List.set_cons_zero, List.set_cons_succ]) | (refine plan_skip rfl (by decide) (by rfl) ?_; simp only [Act.put, List.setIfInBounds_toArray, List.set_cons_zero, List.set_cons_succ])))
      (refine plan_skipK rfl (by decide) (by rfl) (by repeat' (first | with_reducible (first | refine bset ?_ ?_ | exact Below.refl _ _ | assumption | refine bdrewN ?_ _ | refine bdrew ?_ | refine balloc0 ?_ | refine balloc ?_ ?_ | (apply btrans0; rotate_left; assumption) | (apply btrans; rotate_left; assumption)) | exact Below.refl _ _ | assumption | (apply btrans0; rotate_left; assumption) | (apply btrans; rotate_left; assumption) | (simp; done) | omega | (simp; omega))) ?_; simp only [Act.put, List.setIfInBounds_toArray, List.set_cons_zero, List.set_cons_succ])
      (iterate 4 (first | (refine plan_held rfl (by decide) (by rfl) (fun w1 hS => by (try (obtain ⟨_, _⟩ := bcell (hS rfl))); go_simp; rfl) ?_; simp only [Act.put, List.setIfInBounds_toArray, List.set_cons_zero, List.set_cons_succ]) | (refine plan_skip rfl (by decide) (by rfl) ?_; simp only [Act.put, List.setIfInBounds_toArray, List.set_cons_zero, List.set_cons_succ])))
      refine plan_done ?_
      go_wp2
      go_ret
      exact ⟨by rw [decide_eq_false HJ0.out]; rfl, (by repeat' (first | with_reducible (first | refine bset ?_ ?_ | exact Below.refl _ _ | assumption | refine bdrewN ?_ _ | refine bdrew ?_ | refine balloc0 ?_ | refine balloc ?_ ?_ | (apply btrans0; rotate_left; assumption) | (apply btrans; rotate_left; assumption)) | exact Below.refl _ _ | assumption | (apply btrans0; rotate_left; assumption) | (apply btrans; rotate_left; assumption) | (simp; done) | omega | (simp; omega)))⟩
    subst hJ0
    cases A with
    | false =>
      go_upto_region 2 with fail
      refine wp_region_plan (fun V => Below (wc).heap.size (wc) V) [0, 2, 0, 0, 0, 2, 0, 0, 0, 2, 0, 1, 0, 0, 0] [0, 1, 2, 3, 4, 5, 6, 7, 8, 11, 9, 10, 12, 13, 14] (by kernel_rfl) (by kernel_rfl) ?_ ?_
      case refine_1 => exact (by repeat' (first | with_reducible (first | refine bset ?_ ?_ | exact Below.refl _ _ | assumption | refine bdrewN ?_ _ | refine bdrew ?_ | refine balloc0 ?_ | refine balloc ?_ ?_ | (apply btrans0; rotate_left; assumption) | (apply btrans; rotate_left; assumption)) | exact Below.refl _ _ | assumption | (apply btrans0; rotate_left; assumption) | (apply btrans; rotate_left; assumption) | (simp; done) | omega | (simp; omega)))
      (iterate 1 (first | (refine plan_held rfl (by decide) (by rfl) (fun w1 hS => by (try (obtain ⟨_, _⟩ := bcell (hS rfl))); go_simp; rfl) ?_; simp only [Act.put, List.setIfInBounds_toArray, List.set_cons_zero, List.set_cons_succ]) | (refine plan_skip rfl (by decide) (by rfl) ?_; simp only [Act.put, List.setIfInBounds_toArray, List.set_cons_zero, List.set_cons_succ])))
      (refine plan_keep rfl rfl (by rfl) (fun K hK => ?_); go_simp)
      refine (checkJ_any L _ _ (HV.out.below'' (by repeat' (first | with_reducible (first | refine bset ?_ ?_ | exact Below.refl _ _ | assumption | refine bdrewN ?_ _ | refine bdrew ?_ | refine balloc0 ?_ | refine balloc ?_ ?_ | (apply btrans0; rotate_left; assumption) | (apply btrans; rotate_left; assumption)) | exact Below.refl _ _ | assumption | (apply btrans0; rotate_left; assumption) | (apply btrans; rotate_left; assumption) | (simp; done) | omega | (simp; omega)))) HFT.out).mono ?_
      rw [HJ.out]
      rintro e wc12 ⟨rfl, hbc12⟩
      (refine hK _ _ (by exact (by repeat' (first | with_reducible (first | refine bset ?_ ?_ | exact Below.refl _ _ | assumption | refine bdrewN ?_ _ | refine bdrew ?_ | refine balloc0 ?_ | refine balloc ?_ ?_ | (apply btrans0; rotate_left; assumption) | (apply btrans; rotate_left; assumption)) | exact Below.refl _ _ | assumption | (apply btrans0; rotate_left; assumption) | (apply btrans; rotate_left; assumption) | (simp; done) | omega | (simp; omega)))) ?_; clear hK K; (try simp only [Act.put, List.setIfInBounds_toArray, List.set_cons_zero, List.set_cons_succ]))
      (iterate 3 (first | (refine plan_held rfl (by decide) (by rfl) (fun w1 hS => by (try (obtain ⟨_, _⟩ := bcell (hS rfl))); go_simp; rfl) ?_; simp only [Act.put, List.setIfInBounds_toArray, List.set_cons_zero, List.set_cons_succ]) | (refine plan_skip rfl (by decide) (by rfl) ?_; simp only [Act.put, List.setIfInBounds_toArray, List.set_cons_zero, List.set_cons_succ])))
      (refine plan_keep rfl rfl (by rfl) (fun K hK => ?_); go_simp)
      refine (alive_any L _ _ (HV.out.below'' (by repeat' (first | with_reducible (first | refine bset ?_ ?_ | exact Below.refl _ _ | assumption | refine bdrewN ?_ _ | refine bdrew ?_ | refine balloc0 ?_ | refine balloc ?_ ?_ | (apply btrans0; rotate_left; assumption) | (apply btrans; rotate_left; assumption)) | exact Below.refl _ _ | assumption | (apply btrans0; rotate_left; assumption) | (apply btrans; rotate_left; assumption) | (simp; done) | omega | (simp; omega)))) HFT.out).mono ?_
      rw [HA.out]
      rintro e wc16 ⟨rfl, hbc16⟩
      (refine hK _ _ (by exact (by repeat' (first | with_reducible (first | refine bset ?_ ?_ | exact Below.refl _ _ | assumption | refine bdrewN ?_ _ | refine bdrew ?_ | refine balloc0 ?_ | refine balloc ?_ ?_ | (apply btrans0; rotate_left; assumption) | (apply btrans; rotate_left; assumption)) | exact Below.refl _ _ | assumption | (apply btrans0; rotate_left; assumption) | (apply btrans; rotate_left; assumption) | (simp; done) | omega | (simp; omega)))) ?_; clear hK K; (try simp only [Act.put, List.setIfInBounds_toArray, List.set_cons_zero, List.set_cons_succ]))
      (iterate 4 (first | (refine plan_held rfl (by decide) (by rfl) (fun w1 hS => by (try (obtain ⟨_, _⟩ := bcell (hS rfl))); go_simp; rfl) ?_; simp only [Act.put, List.setIfInBounds_toArray, List.set_cons_zero, List.set_cons_succ]) | (refine plan_skip rfl (by decide) (by rfl) ?_; simp only [Act.put, List.setIfInBounds_toArray, List.set_cons_zero, List.set_cons_succ])))
      (refine plan_skipK rfl (by decide) (by rfl) (by repeat' (first | with_reducible (first | refine bset ?_ ?_ | exact Below.refl _ _ | assumption | refine bdrewN ?_ _ | refine bdrew ?_ | refine balloc0 ?_ | refine balloc ?_ ?_ | (apply btrans0; rotate_left; assumption) | (apply btrans; rotate_left; assumption)) | exact Below.refl _ _ | assumption | (apply btrans0; rotate_left; assumption) | (apply btrans; rotate_left; assumption) | (simp; done) | omega | (simp; omega))) ?_; simp only [Act.put, List.setIfInBounds_toArray, List.set_cons_zero, List.set_cons_succ])
      (iterate 4 (first | (refine plan_held rfl (by decide) (by rfl) (fun w1 hS => by (try (obtain ⟨_, _⟩ := bcell (hS rfl))); go_simp; rfl) ?_; simp only [Act.put, List.setIfInBounds_toArray, List.set_cons_zero, List.set_cons_succ]) | (refine plan_skip rfl (by decide) (by rfl) ?_; simp only [Act.put, List.setIfInBounds_toArray, List.set_cons_zero, List.set_cons_succ])))
      refine plan_done ?_
      go_wp2
      go_ret
      exact ⟨by simp, (by repeat' (first | with_reducible (first | refine bset ?_ ?_ | exact Below.refl _ _ | assumption | refine bdrewN ?_ _ | refine bdrew ?_ | refine balloc0 ?_ | refine balloc ?_ ?_ | (apply btrans0; rotate_left; assumption) | (apply btrans; rotate_left; assumption)) | exact Below.refl _ _ | assumption | (apply btrans0; rotate_left; assumption) | (apply btrans; rotate_left; assumption) | (simp; done) | omega | (simp; omega)))⟩
    | true =>
      go_upto_region 2 with fail
      refine wp_region_plan (fun V => Below (wc).heap.size (wc) V) [0, 2, 0, 0, 0, 2, 0, 0, 0, 2, 0, 1, 0, 0, 0] [0, 1, 2, 3, 4, 5, 6, 7, 8, 11, 9, 10, 12, 13, 14] (by kernel_rfl) (by kernel_rfl) ?_ ?_
      case refine_1 => exact (by repeat' (first | with_reducible (first | refine bset ?_ ?_ | exact Below.refl _ _ | assumption | refine bdrewN ?_ _ | refine bdrew ?_ | refine balloc0 ?_ | refine balloc ?_ ?_ | (apply btrans0; rotate_left; assumption) | (apply btrans; rotate_left; assumption)) | exact Below.refl _ _ | assumption | (apply btrans0; rotate_left; assumption) | (apply btrans; rotate_left; assumption) | (simp; done) | omega | (simp; omega)))
      (iterate 1 (first | (refine plan_held rfl (by decide) (by rfl) (fun w1 hS => by (try (obtain ⟨_, _⟩ := bcell (hS rfl))); go_simp; rfl) ?_; simp only [Act.put, List.setIfInBounds_toArray, List.set_cons_zero, List.set_cons_succ]) | (refine plan_skip rfl (by decide) (by rfl) ?_; simp only [Act.put, List.setIfInBounds_toArray, List.set_cons_zero, List.set_cons_succ])))
      (refine plan_keep rfl rfl (by rfl) (fun K hK => ?_); go_simp)
      refine (checkJ_any L _ _ (HV.out.below'' (by repeat' (first | with_reducible (first | refine bset ?_ ?_ | exact Below.refl _ _ | assumption | refine bdrewN ?_ _ | refine bdrew ?_ | refine balloc0 ?_ | refine balloc ?_ ?_ | (apply btrans0; rotate_left; assumption) | (apply btrans; rotate_left; assumption)) | exact Below.refl _ _ | assumption | (apply btrans0; rotate_left; assumption) | (apply btrans; rotate_left; assumption) | (simp; done) | omega | (simp; omega)))) HFT.out).mono ?_
      rw [HJ.out]
      rintro e wc12 ⟨rfl, hbc12⟩
      (refine hK _ _ (by exact (by repeat' (first | with_reducible (first | refine bset ?_ ?_ | exact Below.refl _ _ | assumption | refine bdrewN ?_ _ | refine bdrew ?_ | refine balloc0 ?_ | refine balloc ?_ ?_ | (apply btrans0; rotate_left; assumption) | (apply btrans; rotate_left; assumption)) | exact Below.refl _ _ | assumption | (apply btrans0; rotate_left; assumption) | (apply btrans; rotate_left; assumption) | (simp; done) | omega | (simp; omega)))) ?_; clear hK K; (try simp only [Act.put, List.setIfInBounds_toArray, List.set_cons_zero, List.set_cons_succ]))
      (iterate 3 (first | (refine plan_held rfl (by decide) (by rfl) (fun w1 hS => by (try (obtain ⟨_, _⟩ := bcell (hS rfl))); go_simp; rfl) ?_; simp only [Act.put, List.setIfInBounds_toArray, List.set_cons_zero, List.set_cons_succ]) | (refine plan_skip rfl (by decide) (by rfl) ?_; simp only [Act.put, List.setIfInBounds_toArray, List.set_cons_zero, List.set_cons_succ])))
      (refine plan_keep rfl rfl (by rfl) (fun K hK => ?_); go_simp)
      refine (alive_any L _ _ (HV.out.below'' (by repeat' (first | with_reducible (first | refine bset ?_ ?_ | exact Below.refl _ _ | assumption | refine bdrewN ?_ _ | refine bdrew ?_ | refine balloc0 ?_ | refine balloc ?_ ?_ | (apply btrans0; rotate_left; assumption) | (apply btrans; rotate_left; assumption)) | exact Below.refl _ _ | assumption | (apply btrans0; rotate_left; assumption) | (apply btrans; rotate_left; assumption) | (simp; done) | omega | (simp; omega)))) HFT.out).mono ?_
      rw [HA.out]
      rintro e wc16 ⟨rfl, hbc16⟩
      (refine hK _ _ (by exact (by repeat' (first | with_reducible (first | refine bset ?_ ?_ | exact Below.refl _ _ | assumption | refine bdrewN ?_ _ | refine bdrew ?_ | refine balloc0 ?_ | refine balloc ?_ ?_ | (apply btrans0; rotate_left; assumption) | (apply btrans; rotate_left; assumption)) | exact Below.refl _ _ | assumption | (apply btrans0; rotate_left; assumption) | (apply btrans; rotate_left; assumption) | (simp; done) | omega | (simp; omega)))) ?_; clear hK K; (try simp only [Act.put, List.setIfInBounds_toArray, List.set_cons_zero, List.set_cons_succ]))
      (iterate 4 (first | (refine plan_held rfl (by decide) (by rfl) (fun w1 hS => by (try (obtain ⟨_, _⟩ := bcell (hS rfl))); go_simp; rfl) ?_; simp only [Act.put, List.setIfInBounds_toArray, List.set_cons_zero, List.set_cons_succ]) | (refine plan_skip rfl (by decide) (by rfl) ?_; simp only [Act.put, List.setIfInBounds_toArray, List.set_cons_zero, List.set_cons_succ])))
      (refine plan_keep rfl rfl (by rfl) (fun K hK => ?_); go_simp)
      refine (payload_any L _ _ (HV.out.below'' (by repeat' (first | with_reducible (first | refine bset ?_ ?_ | exact Below.refl _ _ | assumption | refine bdrewN ?_ _ | refine bdrew ?_ | refine balloc0 ?_ | refine balloc ?_ ?_ | (apply btrans0; rotate_left; assumption) | (apply btrans; rotate_left; assumption)) | exact Below.refl _ _ | assumption | (apply btrans0; rotate_left; assumption) | (apply btrans; rotate_left; assumption) | (simp; done) | omega | (simp; omega)))) HFT.out HLN.out).mono ?_
      rw [HPY.out]
      rintro e wc20 ⟨rfl, hbc20⟩
      (refine hK _ _ (by exact (by repeat' (first | with_reducible (first | refine bset ?_ ?_ | exact Below.refl _ _ | assumption | refine bdrewN ?_ _ | refine bdrew ?_ | refine balloc0 ?_ | refine balloc ?_ ?_ | (apply btrans0; rotate_left; assumption) | (apply btrans; rotate_left; assumption)) | exact Below.refl _ _ | assumption | (apply btrans0; rotate_left; assumption) | (apply btrans; rotate_left; assumption) | (simp; done) | omega | (simp; omega)))) ?_; clear hK K; (try simp only [Act.put, List.setIfInBounds_toArray, List.set_cons_zero, List.set_cons_succ]))
      (iterate 4 (first | (refine plan_held rfl (by decide) (by rfl) (fun w1 hS => by (try (obtain ⟨_, _⟩ := bcell (hS rfl))); go_simp; rfl) ?_; simp only [Act.put, List.setIfInBounds_toArray, List.set_cons_zero, List.set_cons_succ]) | (refine plan_skip rfl (by decide) (by rfl) ?_; simp only [Act.put, List.setIfInBounds_toArray, List.set_cons_zero, List.set_cons_succ])))
      refine plan_done ?_
      go_wp2
      go_ret
      exact ⟨by simp, (by repeat' (first | with_reducible (first | refine bset ?_ ?_ | exact Below.refl _ _ | assumption | refine bdrewN ?_ _ | refine bdrew ?_ | refine balloc0 ?_ | refine balloc ?_ ?_ | (apply btrans0; rotate_left; assumption) | (apply btrans; rotate_left; assumption)) | exact Below.refl _ _ | assumption | (apply btrans0; rotate_left; assumption) | (apply btrans; rotate_left; assumption) | (simp; done) | omega | (simp; omega)))⟩
end Go.Proofs.YtpkklmkeflddkaaGreat
