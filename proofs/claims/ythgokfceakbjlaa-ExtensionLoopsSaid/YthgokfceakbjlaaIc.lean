/- Layer 14, the reference: visited. -/
import Derived.Test.YthgokfceakbjlaaAy
set_option linter.unusedVariables false
set_option linter.unusedSimpArgs false
namespace Go.Proofs.Ythgokfceakbjlaa
open Go Go.RowKit
attribute [local go_sem] B_getElem B_size B_app B_extract B_get B_toList

section
variable {P : Program} {Q : Exit → Act → World → Prop} {S : World → Prop} {kd : List Nat}
theorem plan_skipK {l rl : List Oper} {i : Nat} {r : List Nat} {o : Oper} {a : Act} {w : World} (hd : l.drop i = o :: rl) (hk : kd.getD i 2 = 2) (hw : Region.wanted o (yielded l.toArray a.tmps) = false)
    (hS : S w) (h : wpPlan P l.toArray Q S kd r (a.put o.dst undef) w) : wpPlan P l.toArray Q S kd (i :: r) a w := by
  have ho := drop_get hd
  unfold wpPlan
  rw [ho]
  simp only
  rw [if_neg (by omega), if_pos hk]
  unfold wpOp
  simp only [ho, hw]
  exact ⟨hS, h⟩
theorem plan_skipL {l rl : List Oper} {i : Nat} {r : List Nat} {o : Oper} {a : Act} {w : World} (hd : l.drop i = o :: rl) (hk : kd.getD i 2 = 3) (hw : Region.wanted o (yielded l.toArray a.tmps) = false)
    (h : wpPlan P l.toArray Q S kd r (a.put o.dst undef) w) : wpPlan P l.toArray Q S kd (i :: r) a w := by
  have ho := drop_get hd
  unfold wpPlan
  rw [ho]
  simp only
  rw [if_neg (by omega), if_neg (by omega)]
  unfold wpOp
  simp only [ho, hw]
  exact h
end
theorem rnode_b (n : Int) (w : World) : Calls Try.prog 44 #[.int .i64 n] w fun e w' => e = .returned (.bool (nodeB n)) ∧ Below w.heap.size w w' := (rnode_any n w).mono fun e w' h => ⟨h.1, by rw [h.2]; exact Below.refl _ _⟩
theorem rhasI_b (l : List Int) (u : Value) (n : Int) (w : World) (h : RInts w w.heap.size u l) :
    Calls Try.prog 65 #[u, .int .i64 n] w fun e w' => e = .returned (.bool (l.contains n)) ∧ Below w.heap.size w w' := (rhasI_any l u n w h).mono fun e w' h => ⟨h.1, by rw [h.2]; exact Below.refl _ _⟩
theorem num3_none {s : List UInt8} (h : lstR s = none) : num3 s = none := by unfold num3; rw [h]
theorem num3_some {s : List UInt8} {l : List Int} {m : Nat} (h : lstR s = some (l, m)) : num3 s = if m = s.length ∧ visB l = true then some l else none := by unfold num3; rw [h]
set_option maxRecDepth 100000 in
set_option maxHeartbeats 8000000 in
theorem rvis0_any (b : Bun) (u : Value) (w : World) (h : RBlks w w.heap.size u b.blocks) (hv : chkE b = 0) :
    Calls Try.prog 35 #[.agg (bunC b u).toArray] w (GetPost (getS b 3) w) := by
  have HR := Lib.hid h
  obtain ⟨a, c, rfl, h1, h2, h3, h4⟩ := h
  clear h1 h2 h3 h4
  obtain ⟨⟨s, E⟩, hda⟩ : ∃ q, dataS b 3 = q := ⟨_, rfl⟩
  have HDA := Lib.hid hda
  have hga := getS_data hv hda
  rcases hga with ⟨rfl, hg⟩ | ⟨rfl, hs, hg⟩
  · rw [hg]
    clear hda hg hv
    go_enter Try.func35, Try.ntmps35
    simp only [bunC]
    go_wp2_with fail
    refine (rdata_any b _ 3 _ (HR.out.below' (by repeat' (first | with_reducible (first | refine bset ?_ ?_ | exact Below.refl _ _ | assumption | refine bdrewN ?_ _ | refine bdrew ?_ | refine balloc0 ?_ | refine balloc ?_ ?_ | (apply btrans0; rotate_left; assumption) | (apply btrans; rotate_left; assumption)) | exact Below.refl _ _ | assumption | (apply btrans0; rotate_left; assumption) | (apply btrans; rotate_left; assumption) | (simp; done) | omega | (simp; omega))))).mono ?_
    rw [HDA.out]
    simp only
    rintro e w1 ⟨rfl, hb1⟩
    have hB1 : Below w.heap.size w w1 := (by repeat' (first | with_reducible (first | refine bset ?_ ?_ | exact Below.refl _ _ | assumption | refine bdrewN ?_ _ | refine bdrew ?_ | refine balloc0 ?_ | refine balloc ?_ ?_ | (apply btrans0; rotate_left; assumption) | (apply btrans; rotate_left; assumption)) | exact Below.refl _ _ | assumption | (apply btrans0; rotate_left; assumption) | (apply btrans; rotate_left; assumption) | (simp; done) | omega | (simp; omega)))
    clear hb1
    go_wp2
    go_ret2
    unfold GetPost
    exact ⟨_, rfl, (by repeat' (first | with_reducible (first | refine bset ?_ ?_ | exact Below.refl _ _ | assumption | refine bdrewN ?_ _ | refine bdrew ?_ | refine balloc0 ?_ | refine balloc ?_ ?_ | (apply btrans0; rotate_left; assumption) | (apply btrans; rotate_left; assumption)) | exact Below.refl _ _ | assumption | (apply btrans0; rotate_left; assumption) | (apply btrans; rotate_left; assumption) | (simp; done) | omega | (simp; omega))), RInts.lit0 _ _ _⟩
  rw [show dat 3 s = num3 s from by unfold dat; simp] at hg
  obtain ⟨R, hR⟩ : ∃ q, getS b 3 = q := ⟨_, rfl⟩
  rw [hR] at hg ⊢
  have HG := Lib.hid hg
  clear hda hg hR hv
  go_enter Try.func35, Try.ntmps35
  simp only [bunC]
  go_wp2_with fail
  refine (rdata_any b _ 3 _ (HR.out.below' (by repeat' (first | with_reducible (first | refine bset ?_ ?_ | exact Below.refl _ _ | assumption | refine bdrewN ?_ _ | refine bdrew ?_ | refine balloc0 ?_ | refine balloc ?_ ?_ | (apply btrans0; rotate_left; assumption) | (apply btrans; rotate_left; assumption)) | exact Below.refl _ _ | assumption | (apply btrans0; rotate_left; assumption) | (apply btrans; rotate_left; assumption) | (simp; done) | omega | (simp; omega))))).mono ?_
  rw [HDA.out]
  simp only
  rintro e w1 ⟨rfl, hb1⟩
  have hB1 : Below w.heap.size w w1 := (by repeat' (first | with_reducible (first | refine bset ?_ ?_ | exact Below.refl _ _ | assumption | refine bdrewN ?_ _ | refine bdrew ?_ | refine balloc0 ?_ | refine balloc ?_ ?_ | (apply btrans0; rotate_left; assumption) | (apply btrans; rotate_left; assumption)) | exact Below.refl _ _ | assumption | (apply btrans0; rotate_left; assumption) | (apply btrans; rotate_left; assumption) | (simp; done) | omega | (simp; omega)))
  clear hb1
  go_wp2_with fail
  refine (rreadlist_any s _ (by omega)).mono ?_
  unfold RLPost
  rintro e w2 ⟨v, l, k, E, rfl, hb2, hri, hres⟩
  have hB2 : Below w.heap.size w w2 := (by repeat' (first | with_reducible (first | refine bset ?_ ?_ | exact Below.refl _ _ | assumption | refine bdrewN ?_ _ | refine bdrew ?_ | refine balloc0 ?_ | refine balloc ?_ ?_ | (apply btrans0; rotate_left; assumption) | (apply btrans; rotate_left; assumption)) | exact Below.refl _ _ | assumption | (apply btrans0; rotate_left; assumption) | (apply btrans; rotate_left; assumption) | (simp; done) | omega | (simp; omega)))
  clear hb2
  by_cases hE : E = 0
  case neg =>
    have hE2 : (E != 0) = true := by rw [bne_iff_ne]; exact hE
    have HNO : Hid (R = ([], 11)) := Lib.hid (by
      rw [HG.out, num3_none]
      rcases hres with ⟨_, _, _, h⟩ | ⟨h, _⟩
      · exact h
      · exact absurd h hE)
    clear hE hri hres
    go_wp2
    go_ret2
    unfold GetPost
    rw [HNO.out]
    exact ⟨_, rfl, (by repeat' (first | with_reducible (first | refine bset ?_ ?_ | exact Below.refl _ _ | assumption | refine bdrewN ?_ _ | refine bdrew ?_ | refine balloc0 ?_ | refine balloc ?_ ?_ | (apply btrans0; rotate_left; assumption) | (apply btrans; rotate_left; assumption)) | exact Below.refl _ _ | assumption | (apply btrans0; rotate_left; assumption) | (apply btrans; rotate_left; assumption) | (simp; done) | omega | (simp; omega))), RInts.lit0 _ _ _⟩
  obtain ⟨m, rfl, hls⟩ : ∃ m : Nat, k = m ∧ lstR s = some (l, m) := by
    rcases hres with ⟨h, _⟩ | ⟨_, h⟩
    · exact absurd hE h
    · exact h
  subst hE
  have hll : l.length ≤ s.length := by
    obtain ⟨_, _, _, _, _, _, _, _, _, h⟩ := lstR_some hls
    exact h
  have HNUM := Lib.hid (num3_some hls)
  clear hres hls
  by_cases hm : m = s.length
  case neg =>
    have hm2 : ((m : Int) != (s.length : Int)) = true := by rw [bne_iff_ne]; omega
    have hm3 : ((m : Int) == (s.length : Int)) = false := by rw [beq_eq_false_iff_ne]; omega
    have HNO : Hid (R = ([], 11)) := Lib.hid (by rw [HG.out, HNUM.out, if_neg (fun h => hm h.1)])
    clear hm hri
    go_wp2
    go_ret2
    unfold GetPost
    rw [HNO.out]
    exact ⟨_, rfl, (by repeat' (first | with_reducible (first | refine bset ?_ ?_ | exact Below.refl _ _ | assumption | refine bdrewN ?_ _ | refine bdrew ?_ | refine balloc0 ?_ | refine balloc ?_ ?_ | (apply btrans0; rotate_left; assumption) | (apply btrans; rotate_left; assumption)) | exact Below.refl _ _ | assumption | (apply btrans0; rotate_left; assumption) | (apply btrans; rotate_left; assumption) | (simp; done) | omega | (simp; omega))), RInts.lit0 _ _ _⟩
  have hm2 : ((m : Int) != (s.length : Int)) = false := by rw [hm]; simp
  have hm3 : ((m : Int) == (s.length : Int)) = true := by rw [hm]; simp
  have HM := Lib.hid hm
  obtain ⟨a, c, rfl, h1, h2, h3, h4⟩ := id hri
  unfold maxLen at h2
  have H4 := Lib.hid h4
  have HRI := Lib.hid hri
  clear hm hri h3 h4
  have hl0 : l.length ≤ 1000000 := by omega
  go_wp2
  go_loopw [8] (fun i wr => ∃ k : Nat, k ≤ l.length ∧ i = .int .i64 k ∧ Hid (visB (l.take k) = true) ∧ Below w2.heap.size w2 wr) (fun i _ => l.length - (intOf i).toNat)
  case atStart => exact ⟨0, Nat.zero_le _, rfl, Lib.hid (by rw [List.take_zero]; decide), Below.refl _ _⟩
  case round =>
    obtain ⟨k, hk, rfl, HV, hb3⟩ := hrel
    obtain ⟨w3, rfl⟩ : ∃ q, q = wr := ⟨_, rfl⟩
    have hB3 : Below w.heap.size w w3 := (by repeat' (first | with_reducible (first | refine bset ?_ ?_ | exact Below.refl _ _ | assumption | refine bdrewN ?_ _ | refine bdrew ?_ | refine balloc0 ?_ | refine balloc ?_ ?_ | (apply btrans0; rotate_left; assumption) | (apply btrans; rotate_left; assumption)) | exact Below.refl _ _ | assumption | (apply btrans0; rotate_left; assumption) | (apply btrans; rotate_left; assumption) | (simp; done) | omega | (simp; omega)))
    have k0 : (0 : Int) ≤ (k : Int) := by omega
    by_cases hlt : k < l.length
    · obtain ⟨b, o, rfl, hbn, hcell⟩ := H4.out (by omega)
      obtain ⟨x, hx⟩ : ∃ x, l[k]? = some x := ⟨_, List.getElem?_eq_getElem hlt⟩
      have c1 := (hb3.cell (p := ⟨b, o + k, none⟩) hbn).trans (hcell k x hx)
      have hbn3 : b < w3.heap.size := by have := hb3.size; omega
      have k1 : (k : Int) < (l.length : Int) := by omega
      have kc : (k : Int) ≤ (c : Int) := by omega
      obtain ⟨p, hp⟩ : ∃ p, nodeB x = p := ⟨_, rfl⟩
      obtain ⟨q, hq⟩ : ∃ p, (l.take k).contains x = p := ⟨_, rfl⟩
      have hs2 := visB_snoc (l.take k) x
      rw [← take_one hx, HV.out, hp, hq, Bool.true_and] at hs2
      have HS := Lib.hid hs2
      have HP := Lib.hid hp
      have HQ := Lib.hid hq
      have HT := Lib.hid ((HRI.out.below' hb3).take k (by omega))
      clear hcell hx hp hq hs2 HV
      cases p with
      | false =>
        have HNO : Hid (R = ([], 11)) := Lib.hid (by rw [HG.out, HNUM.out, if_neg (fun h => by have := visB_take h.2 (k + 1); rw [HS.out] at this; simp at this)])
        go_wp2
        refine wp_region_plan (fun V => Below (w3).heap.size (w3) V) [0, 0, 0, 1, 2, 0, 0, 0, 0, 0, 0, 0, 0, 1, 3, 0] [0, 1, 2, 3, 4, 5, 6, 7, 8, 9, 10, 11, 12, 13, 14, 15] (by kernel_rfl) (by kernel_rfl) ?_ ?_
        case refine_1 => exact (by repeat' (first | with_reducible (first | refine bset ?_ ?_ | exact Below.refl _ _ | assumption | refine bdrewN ?_ _ | refine bdrew ?_ | refine balloc0 ?_ | refine balloc ?_ ?_ | (apply btrans0; rotate_left; assumption) | (apply btrans; rotate_left; assumption)) | exact Below.refl _ _ | assumption | (apply btrans0; rotate_left; assumption) | (apply btrans; rotate_left; assumption) | (simp; done) | omega | (simp; omega)))
        (iterate 4 (first | (refine plan_held rfl (by decide) (by rfl) (fun w1 hS => by (try (obtain ⟨_, _⟩ := bcell (hS rfl))); go_simp; rfl) ?_; simp only [Act.put, List.setIfInBounds_toArray, List.set_cons_zero, List.set_cons_succ]) | (refine plan_skip rfl (by decide) (by rfl) ?_; simp only [Act.put, List.setIfInBounds_toArray, List.set_cons_zero, List.set_cons_succ])))
        (refine plan_keep rfl rfl (by rfl) (fun K hK => ?_); go_simp)
        refine (rnode_b x _).mono ?_
        rw [HP.out]
        rintro e wc43 ⟨rfl, hbc43⟩
        (refine hK _ _ (by exact (by repeat' (first | with_reducible (first | refine bset ?_ ?_ | exact Below.refl _ _ | assumption | refine bdrewN ?_ _ | refine bdrew ?_ | refine balloc0 ?_ | refine balloc ?_ ?_ | (apply btrans0; rotate_left; assumption) | (apply btrans; rotate_left; assumption)) | exact Below.refl _ _ | assumption | (apply btrans0; rotate_left; assumption) | (apply btrans; rotate_left; assumption) | (simp; done) | omega | (simp; omega)))) ?_; clear hK K; (try simp only [Act.put, List.setIfInBounds_toArray, List.set_cons_zero, List.set_cons_succ]))
        (iterate 9 (first | (refine plan_held rfl (by decide) (by rfl) (fun w1 hS => by (try (obtain ⟨_, _⟩ := bcell (hS rfl))); go_simp; rfl) ?_; simp only [Act.put, List.setIfInBounds_toArray, List.set_cons_zero, List.set_cons_succ]) | (refine plan_skip rfl (by decide) (by rfl) ?_; simp only [Act.put, List.setIfInBounds_toArray, List.set_cons_zero, List.set_cons_succ])))
        (refine plan_skipL rfl (by decide) (by rfl) ?_; simp only [Act.put, List.setIfInBounds_toArray, List.set_cons_zero, List.set_cons_succ])
        (iterate 1 (first | (refine plan_held rfl (by decide) (by rfl) (fun w1 hS => by (try (obtain ⟨_, _⟩ := bcell (hS rfl))); go_simp; rfl) ?_; simp only [Act.put, List.setIfInBounds_toArray, List.set_cons_zero, List.set_cons_succ]) | (refine plan_skip rfl (by decide) (by rfl) ?_; simp only [Act.put, List.setIfInBounds_toArray, List.set_cons_zero, List.set_cons_succ])))
        refine plan_done ?_
        go_wp2
        go_ret2
        unfold GetPost
        rw [HNO.out]
        exact ⟨_, rfl, (by repeat' (first | with_reducible (first | refine bset ?_ ?_ | exact Below.refl _ _ | assumption | refine bdrewN ?_ _ | refine bdrew ?_ | refine balloc0 ?_ | refine balloc ?_ ?_ | (apply btrans0; rotate_left; assumption) | (apply btrans; rotate_left; assumption)) | exact Below.refl _ _ | assumption | (apply btrans0; rotate_left; assumption) | (apply btrans; rotate_left; assumption) | (simp; done) | omega | (simp; omega))), RInts.lit0 _ _ _⟩
      | true =>
        cases q with
        | true =>
          have HNO : Hid (R = ([], 11)) := Lib.hid (by rw [HG.out, HNUM.out, if_neg (fun h => by have := visB_take h.2 (k + 1); rw [HS.out] at this; simp at this)])
          go_wp2
          refine wp_region_plan (fun V => Below (w3).heap.size (w3) V) [0, 0, 0, 1, 2, 0, 0, 0, 0, 0, 0, 0, 0, 1, 3, 0] [0, 1, 2, 3, 4, 5, 6, 7, 8, 9, 10, 11, 12, 13, 14, 15] (by kernel_rfl) (by kernel_rfl) ?_ ?_
          case refine_1 => exact (by repeat' (first | with_reducible (first | refine bset ?_ ?_ | exact Below.refl _ _ | assumption | refine bdrewN ?_ _ | refine bdrew ?_ | refine balloc0 ?_ | refine balloc ?_ ?_ | (apply btrans0; rotate_left; assumption) | (apply btrans; rotate_left; assumption)) | exact Below.refl _ _ | assumption | (apply btrans0; rotate_left; assumption) | (apply btrans; rotate_left; assumption) | (simp; done) | omega | (simp; omega)))
          (iterate 4 (first | (refine plan_held rfl (by decide) (by rfl) (fun w1 hS => by (try (obtain ⟨_, _⟩ := bcell (hS rfl))); go_simp; rfl) ?_; simp only [Act.put, List.setIfInBounds_toArray, List.set_cons_zero, List.set_cons_succ]) | (refine plan_skip rfl (by decide) (by rfl) ?_; simp only [Act.put, List.setIfInBounds_toArray, List.set_cons_zero, List.set_cons_succ])))
          (refine plan_keep rfl rfl (by rfl) (fun K hK => ?_); go_simp)
          refine (rnode_b x _).mono ?_
          rw [HP.out]
          rintro e wc43 ⟨rfl, hbc43⟩
          (refine hK _ _ (by exact (by repeat' (first | with_reducible (first | refine bset ?_ ?_ | exact Below.refl _ _ | assumption | refine bdrewN ?_ _ | refine bdrew ?_ | refine balloc0 ?_ | refine balloc ?_ ?_ | (apply btrans0; rotate_left; assumption) | (apply btrans; rotate_left; assumption)) | exact Below.refl _ _ | assumption | (apply btrans0; rotate_left; assumption) | (apply btrans; rotate_left; assumption) | (simp; done) | omega | (simp; omega)))) ?_; clear hK K; (try simp only [Act.put, List.setIfInBounds_toArray, List.set_cons_zero, List.set_cons_succ]))
          (iterate 9 (first | (refine plan_held rfl (by decide) (by rfl) (fun w1 hS => by (try (obtain ⟨_, _⟩ := bcell (hS rfl))); go_simp; rfl) ?_; simp only [Act.put, List.setIfInBounds_toArray, List.set_cons_zero, List.set_cons_succ]) | (refine plan_skip rfl (by decide) (by rfl) ?_; simp only [Act.put, List.setIfInBounds_toArray, List.set_cons_zero, List.set_cons_succ])))
          (refine plan_late rfl rfl (by rfl) (fun K hK => ?_); go_simp)
          refine (rhasI_b (l.take k) _ x _ (HT.out.below' (by repeat' (first | with_reducible (first | refine bset ?_ ?_ | exact Below.refl _ _ | assumption | refine bdrewN ?_ _ | refine bdrew ?_ | refine balloc0 ?_ | refine balloc ?_ ?_ | (apply btrans0; rotate_left; assumption) | (apply btrans; rotate_left; assumption)) | exact Below.refl _ _ | assumption | (apply btrans0; rotate_left; assumption) | (apply btrans; rotate_left; assumption) | (simp; done) | omega | (simp; omega))))).mono ?_
          rw [HQ.out]
          rintro e wc53 ⟨rfl, hbc53⟩
          (refine hK _ _ ?_; clear hK K; (try simp only [Act.put, List.setIfInBounds_toArray, List.set_cons_zero, List.set_cons_succ]))
          (iterate 1 (first | (refine plan_held rfl (by decide) (by rfl) (fun w1 hS => by (try (obtain ⟨_, _⟩ := bcell (hS rfl))); go_simp; rfl) ?_; simp only [Act.put, List.setIfInBounds_toArray, List.set_cons_zero, List.set_cons_succ]) | (refine plan_skip rfl (by decide) (by rfl) ?_; simp only [Act.put, List.setIfInBounds_toArray, List.set_cons_zero, List.set_cons_succ])))
          refine plan_done ?_
          go_wp2
          go_ret2
          unfold GetPost
          rw [HNO.out]
          exact ⟨_, rfl, (by repeat' (first | with_reducible (first | refine bset ?_ ?_ | exact Below.refl _ _ | assumption | refine bdrewN ?_ _ | refine bdrew ?_ | refine balloc0 ?_ | refine balloc ?_ ?_ | (apply btrans0; rotate_left; assumption) | (apply btrans; rotate_left; assumption)) | exact Below.refl _ _ | assumption | (apply btrans0; rotate_left; assumption) | (apply btrans; rotate_left; assumption) | (simp; done) | omega | (simp; omega))), RInts.lit0 _ _ _⟩
        | false =>
          go_wp2
          refine wp_region_plan (fun V => Below (w3).heap.size (w3) V) [0, 0, 0, 1, 2, 0, 0, 0, 0, 0, 0, 0, 0, 1, 3, 0] [0, 1, 2, 3, 4, 5, 6, 7, 8, 9, 10, 11, 12, 13, 14, 15] (by kernel_rfl) (by kernel_rfl) ?_ ?_
          case refine_1 => exact (by repeat' (first | with_reducible (first | refine bset ?_ ?_ | exact Below.refl _ _ | assumption | refine bdrewN ?_ _ | refine bdrew ?_ | refine balloc0 ?_ | refine balloc ?_ ?_ | (apply btrans0; rotate_left; assumption) | (apply btrans; rotate_left; assumption)) | exact Below.refl _ _ | assumption | (apply btrans0; rotate_left; assumption) | (apply btrans; rotate_left; assumption) | (simp; done) | omega | (simp; omega)))
          (iterate 4 (first | (refine plan_held rfl (by decide) (by rfl) (fun w1 hS => by (try (obtain ⟨_, _⟩ := bcell (hS rfl))); go_simp; rfl) ?_; simp only [Act.put, List.setIfInBounds_toArray, List.set_cons_zero, List.set_cons_succ]) | (refine plan_skip rfl (by decide) (by rfl) ?_; simp only [Act.put, List.setIfInBounds_toArray, List.set_cons_zero, List.set_cons_succ])))
          (refine plan_keep rfl rfl (by rfl) (fun K hK => ?_); go_simp)
          refine (rnode_b x _).mono ?_
          rw [HP.out]
          rintro e wc43 ⟨rfl, hbc43⟩
          (refine hK _ _ (by exact (by repeat' (first | with_reducible (first | refine bset ?_ ?_ | exact Below.refl _ _ | assumption | refine bdrewN ?_ _ | refine bdrew ?_ | refine balloc0 ?_ | refine balloc ?_ ?_ | (apply btrans0; rotate_left; assumption) | (apply btrans; rotate_left; assumption)) | exact Below.refl _ _ | assumption | (apply btrans0; rotate_left; assumption) | (apply btrans; rotate_left; assumption) | (simp; done) | omega | (simp; omega)))) ?_; clear hK K; (try simp only [Act.put, List.setIfInBounds_toArray, List.set_cons_zero, List.set_cons_succ]))
          (iterate 9 (first | (refine plan_held rfl (by decide) (by rfl) (fun w1 hS => by (try (obtain ⟨_, _⟩ := bcell (hS rfl))); go_simp; rfl) ?_; simp only [Act.put, List.setIfInBounds_toArray, List.set_cons_zero, List.set_cons_succ]) | (refine plan_skip rfl (by decide) (by rfl) ?_; simp only [Act.put, List.setIfInBounds_toArray, List.set_cons_zero, List.set_cons_succ])))
          (refine plan_late rfl rfl (by rfl) (fun K hK => ?_); go_simp)
          refine (rhasI_b (l.take k) _ x _ (HT.out.below' (by repeat' (first | with_reducible (first | refine bset ?_ ?_ | exact Below.refl _ _ | assumption | refine bdrewN ?_ _ | refine bdrew ?_ | refine balloc0 ?_ | refine balloc ?_ ?_ | (apply btrans0; rotate_left; assumption) | (apply btrans; rotate_left; assumption)) | exact Below.refl _ _ | assumption | (apply btrans0; rotate_left; assumption) | (apply btrans; rotate_left; assumption) | (simp; done) | omega | (simp; omega))))).mono ?_
          rw [HQ.out]
          rintro e wc53 ⟨rfl, hbc53⟩
          (refine hK _ _ ?_; clear hK K; (try simp only [Act.put, List.setIfInBounds_toArray, List.set_cons_zero, List.set_cons_succ]))
          (iterate 1 (first | (refine plan_held rfl (by decide) (by rfl) (fun w1 hS => by (try (obtain ⟨_, _⟩ := bcell (hS rfl))); go_simp; rfl) ?_; simp only [Act.put, List.setIfInBounds_toArray, List.set_cons_zero, List.set_cons_succ]) | (refine plan_skip rfl (by decide) (by rfl) ?_; simp only [Act.put, List.setIfInBounds_toArray, List.set_cons_zero, List.set_cons_succ])))
          refine plan_done ?_
          go_wp2
          go_roundw
          case rel => exact ⟨k + 1, by omega, by go_num, Lib.hid (by rw [HS.out]; rfl), (by repeat' (first | with_reducible (first | refine bset ?_ ?_ | exact Below.refl _ _ | assumption | refine bdrewN ?_ _ | refine bdrew ?_ | refine balloc0 ?_ | refine balloc ?_ ?_ | (apply btrans0; rotate_left; assumption) | (apply btrans; rotate_left; assumption)) | exact Below.refl _ _ | assumption | (apply btrans0; rotate_left; assumption) | (apply btrans; rotate_left; assumption) | (simp; done) | omega | (simp; omega)))⟩
          case measure => simp [intOf]; omega
    · obtain rfl : k = l.length := by omega
      have HNO : Hid (R = (l, 0)) := Lib.hid (by
        have := HV.out
        rw [List.take_length] at this
        rw [HG.out, HNUM.out, if_pos ⟨HM.out, this⟩])
      go_wp2
      go_ret2
      unfold GetPost
      rw [HNO.out]
      exact ⟨_, rfl, hB3, HRI.out.below' hb3⟩
end Go.Proofs.Ythgokfceakbjlaa
