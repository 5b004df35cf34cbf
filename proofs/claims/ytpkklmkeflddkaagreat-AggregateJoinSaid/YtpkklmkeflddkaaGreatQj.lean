/- Chapter 19: the program's Pack. -/
import Derived.Test.YtpkklmkeflddkaaGreatQi
import Derived.Test.YtpkklmkeflddkaaGreatRT
import Derived.BigRegion
import Derived.Deep.DeepCutAuto
import Derived.Deep.CutBlock
set_option linter.unusedVariables false
set_option linter.unusedSimpArgs false
namespace Go.Proofs.YtpkklmkeflddkaaGreat
open Go Go.RowKit
attribute [local go_sem] B_getElem B_size B_app B_extract B_get B_toList

set_option maxRecDepth 100000 in
set_option maxHeartbeats 20000000 in
theorem pack_any (l : List Int) (v : Value) (most : Int) (w : World) (h : RInts w w.heap.size v l) :
    Calls Tryz.prog 13 #[v, .int .i64 most] w (PackPost l most w) := by
  have HR := Lib.hid h
  obtain ⟨a, c, rfl, h1, h2, h3, h4⟩ := h
  unfold maxLen at h2
  have hlen : l.length ≤ 9223372036854775807 := by omega
  have H4 := Lib.hid h4
  clear h3 h4
  by_cases g1 : 1000 < l.length
  · have HP : packS l most = ([], 4) := if_pos g1
    have d1 : decide ((1000 : Int) < (l.length : Int)) = true := by rw [decide_eq_true_eq]; omega
    go_enter Tryz.func13, Tryz.ntmps13
    go_wp2
    go_ret2
    unfold PackPost
    rw [HP]
    exact ⟨_, rfl, (by repeat' (first | with_reducible (first | refine bset ?_ ?_ | exact Below.refl _ _ | assumption | refine bdrewN ?_ _ | refine bdrew ?_ | refine balloc0 ?_ | refine balloc ?_ ?_ | (apply btrans0; rotate_left; assumption) | (apply btrans; rotate_left; assumption)) | exact Below.refl _ _ | assumption | (apply btrans0; rotate_left; assumption) | (apply btrans; rotate_left; assumption) | (simp; done) | omega | (simp; omega))), ⟨[], OwnV.nil⟩⟩
  have d1 : decide ((1000 : Int) < (l.length : Int)) = false := by rw [decide_eq_false_iff_not]; omega
  by_cases g2 : most < 1
  · have HP : packS l most = ([], 2) := by unfold packS; rw [if_neg g1, if_pos (.inl g2)]
    have d2 : decide (most < 1) = true := decide_eq_true g2
    clear g1 g2
    go_enter Tryz.func13, Tryz.ntmps13
    go_wp2
    go_ret2
    unfold PackPost
    rw [HP]
    exact ⟨_, rfl, (by repeat' (first | with_reducible (first | refine bset ?_ ?_ | exact Below.refl _ _ | assumption | refine bdrewN ?_ _ | refine bdrew ?_ | refine balloc0 ?_ | refine balloc ?_ ?_ | (apply btrans0; rotate_left; assumption) | (apply btrans; rotate_left; assumption)) | exact Below.refl _ _ | assumption | (apply btrans0; rotate_left; assumption) | (apply btrans; rotate_left; assumption) | (simp; done) | omega | (simp; omega))), ⟨[], OwnV.nil⟩⟩
  have d2 : decide (most < 1) = false := decide_eq_false g2
  by_cases g3 : 1152921504606846976 < most
  · have HP : packS l most = ([], 2) := by unfold packS; rw [if_neg g1, if_pos (.inr (.inl g3))]
    have d3 : decide (1152921504606846976 < most) = true := decide_eq_true g3
    clear g1 g2 g3
    go_enter Tryz.func13, Tryz.ntmps13
    go_wp2
    go_ret2
    unfold PackPost
    rw [HP]
    exact ⟨_, rfl, (by repeat' (first | with_reducible (first | refine bset ?_ ?_ | exact Below.refl _ _ | assumption | refine bdrewN ?_ _ | refine bdrew ?_ | refine balloc0 ?_ | refine balloc ?_ ?_ | (apply btrans0; rotate_left; assumption) | (apply btrans; rotate_left; assumption)) | exact Below.refl _ _ | assumption | (apply btrans0; rotate_left; assumption) | (apply btrans; rotate_left; assumption) | (simp; done) | omega | (simp; omega))), ⟨[], OwnV.nil⟩⟩
  have d3 : decide (1152921504606846976 < most) = false := decide_eq_false g3
  obtain ⟨s1, hs1⟩ : ∃ q, l.any (fun n => decide (n < 1)) = q := ⟨_, rfl⟩
  have HS1 := Lib.hid hs1
  cases s1 with
  | true =>
    have HP : packS l most = ([], 2) := by unfold packS; rw [if_neg g1, if_pos (.inr (.inr hs1))]
    clear g1 g2 g3 hs1
    go_enter Tryz.func13, Tryz.ntmps13
    go_wp2_with fail
    refine (contains_PredI l _ _ _ _ _ (HR.out.below (balloc0 (Below.refl _ _)) (Nat.le_refl _) (by simp)) (pk1_pred _ _)).mono ?_
    rw [HS1.out]
    rintro e w1 ⟨rfl, hb1⟩
    have b1 : Below w.heap.size w w1 := btrans0 (balloc0 (Below.refl _ _)) hb1
    have A1 : Hid (w1.heap[w.heap.size]? = some (.cells #[.int .i64 most] 3 (0, 0))) := Lib.hid ((hb1.block _ (by simp)).trans heap_new)
    have z1 : w.heap.size < w1.heap.size := by have := hb1.size; (try simp at this); omega
    have ca := fun o => cellB A1.out o
    clear hb1
    go_wp2
    go_ret2
    unfold PackPost
    rw [HP]
    exact ⟨_, rfl, (by repeat' (first | with_reducible (first | refine bset ?_ ?_ | exact Below.refl _ _ | assumption | refine bdrewN ?_ _ | refine bdrew ?_ | refine balloc0 ?_ | refine balloc ?_ ?_ | (apply btrans0; rotate_left; assumption) | (apply btrans; rotate_left; assumption)) | exact Below.refl _ _ | assumption | (apply btrans0; rotate_left; assumption) | (apply btrans; rotate_left; assumption) | (simp; done) | omega | (simp; omega))), ⟨[], OwnV.nil⟩⟩
  | false =>
  obtain ⟨s2, hs2⟩ : ∃ q, l.any (fun n => decide (n > most)) = q := ⟨_, rfl⟩
  have HS2 := Lib.hid hs2
  cases s2 with
  | true =>
    have HP : packS l most = ([], 15) := by unfold packS; rw [if_neg g1, if_neg (by rw [hs1]; simp only [reduceCtorEq, or_false]; omega), if_pos hs2]
    clear g1 g2 g3 hs1 hs2
    go_enter Tryz.func13, Tryz.ntmps13
    go_wp2_with fail
    refine (contains_PredI l _ _ _ _ _ (HR.out.below (balloc0 (Below.refl _ _)) (Nat.le_refl _) (by simp)) (pk1_pred _ _)).mono ?_
    rw [HS1.out]
    rintro e w1 ⟨rfl, hb1⟩
    have b1 : Below w.heap.size w w1 := btrans0 (balloc0 (Below.refl _ _)) hb1
    have A1 : Hid (w1.heap[w.heap.size]? = some (.cells #[.int .i64 most] 3 (0, 0))) := Lib.hid ((hb1.block _ (by simp)).trans heap_new)
    have z1 : w.heap.size < w1.heap.size := by have := hb1.size; (try simp at this); omega
    have ca := fun o => cellB A1.out o
    clear hb1
    go_wp2_with fail
    refine (contains_PredI l _ _ _ _ _ (HR.out.below b1 (Nat.le_refl _) b1.size) (pk2_pred _ _ _ _ _ A1.out)).mono ?_
    rw [HS2.out]
    rintro e w2 ⟨rfl, hb2⟩
    have b2 : Below w.heap.size w w2 := btrans0 b1 hb2
    have A2 : Hid (w2.heap[w.heap.size]? = some (.cells #[.int .i64 most] 3 (0, 0))) := Lib.hid ((hb2.block _ z1).trans A1.out)
    clear hb2 ca
    go_wp2
    go_ret2
    unfold PackPost
    rw [HP]
    exact ⟨_, rfl, (by repeat' (first | with_reducible (first | refine bset ?_ ?_ | exact Below.refl _ _ | assumption | refine bdrewN ?_ _ | refine bdrew ?_ | refine balloc0 ?_ | refine balloc ?_ ?_ | (apply btrans0; rotate_left; assumption) | (apply btrans; rotate_left; assumption)) | exact Below.refl _ _ | assumption | (apply btrans0; rotate_left; assumption) | (apply btrans; rotate_left; assumption) | (simp; done) | omega | (simp; omega))), ⟨[], OwnV.nil⟩⟩
  | false =>
  have HP0 : Hid (packS l most = ((packL most l 0 ([], [])).1, 0)) := Lib.hid (by unfold packS; rw [if_neg g1, if_neg (by rw [hs1]; simp only [reduceCtorEq, or_false]; omega), if_neg (by rw [hs2]; simp)])
  obtain ⟨R, hR⟩ : ∃ q, packL most l 0 ([], []) = q := ⟨_, rfl⟩
  rw [hR] at HP0
  have HRR := Lib.hid hR
  have HN : Hid (∀ n ∈ l, 1 ≤ n ∧ n ≤ most) := Lib.hid (fun n hn => by
    have e1 := List.any_eq_false.1 hs1 n hn
    have e2 := List.any_eq_false.1 hs2 n hn
    simp at e1 e2
    omega)
  have hl1000 : l.length ≤ 1000 := by omega
  have hm1 : 1 ≤ most := by omega
  have hm2 : most ≤ 1152921504606846976 := by omega
  clear hs1 hs2 hR g1 g2 g3
  go_enter Tryz.func13, Tryz.ntmps13
  go_wp2_with fail
  refine (contains_PredI l _ _ _ _ _ (HR.out.below (balloc0 (Below.refl _ _)) (Nat.le_refl _) (by simp)) (pk1_pred _ _)).mono ?_
  rw [HS1.out]
  rintro e w1 ⟨rfl, hb1⟩
  have b1 : Below w.heap.size w w1 := btrans0 (balloc0 (Below.refl _ _)) hb1
  have A1 : Hid (w1.heap[w.heap.size]? = some (.cells #[.int .i64 most] 3 (0, 0))) := Lib.hid ((hb1.block _ (by simp)).trans heap_new)
  have z1 : w.heap.size < w1.heap.size := by have := hb1.size; (try simp at this); omega
  have ca := fun o => cellB A1.out o
  clear hb1
  go_wp2_with fail
  refine (contains_PredI l _ _ _ _ _ (HR.out.below b1 (Nat.le_refl _) b1.size) (pk2_pred _ _ _ _ _ A1.out)).mono ?_
  rw [HS2.out]
  rintro e w2 ⟨rfl, hb2⟩
  have b2 : Below w.heap.size w w2 := btrans0 b1 hb2
  have A2 : Hid (w2.heap[w.heap.size]? = some (.cells #[.int .i64 most] 3 (0, 0))) := Lib.hid ((hb2.block _ z1).trans A1.out)
  clear hb2 ca
  go_wp2
  go_loopw [6, 7, 29] (fun s6 s7 s29 wr => PLoop l most w R s6 s7 s29 wr) (fun _ _ i _ => l.length - (intOf i).toNat)
  case atStart => exact ⟨0, [], [], [], Nat.zero_le _, rfl, HRR.out, Nat.le_refl _, fun g hg => (by cases hg), rfl, fun s hs => (by cases hs), OwnV.nil, own_nil, fun i x q hx => (by simp at hx), A2.out, b2⟩
  case round =>
    obtain ⟨k, gs, ss, vals, hk, rfl, hpk, hgk, hgl, hb⟩ := hrel
    obtain ⟨a6, c6, rfl⟩ := own_shape hb.out.1
    obtain ⟨a7, c7, rfl⟩ := own_shape hb.row
    have HPK := Lib.hid hpk
    have HGL0 := Lib.hid hgl
    have HBS := Lib.hid hb
    have hB := hb.below
    have zA : w.heap.size < wr.heap.size := by
      rcases Nat.lt_or_ge w.heap.size wr.heap.size with z | z
      · exact z
      · have := hb.box; rw [Array.getElem?_eq_none z] at this; cases this
    clear hpk hb hgl
    by_cases hlt : k < l.length
    · obtain ⟨bb, o, rfl, hbn, hcell⟩ := H4.out (by omega)
      obtain ⟨n, hn⟩ : ∃ x, l[k]? = some x := ⟨_, List.getElem?_eq_getElem hlt⟩
      have c1 := (hB.cell (p := ⟨bb, o + k, none⟩) hbn).trans (hcell k n hn)
      have k0 : (0 : Int) ≤ (k : Int) := by omega
      have k1 : (k : Int) < (l.length : Int) := by omega
      have HX := Lib.hid hn
      have hnm := HN.out n (List.mem_of_getElem? hn)
      have HNM := Lib.hid hnm
      clear hn hcell hnm
      go_wp2_with fail
      have b3 : Below wr.heap.size wr (wr.alloc (.cells #[.int .i64 n] 3)) := balloc0 (Below.refl _ _)
      have HN3 := Lib.hid (heap_new (W := wr) (o := .cells #[.int .i64 n] 3))
      generalize wr.alloc (.cells #[.int .i64 n] 3) = w3 at *
      refine (index_PredI ss _ _ _ _ _ ((RInts.of_own HBS.out.row).below b3 (Nat.le_refl _) b3.size) (pk3_pred _ _ _ _ _ _ most n ((b3.block _ zA).trans HBS.out.box) HN3.out (by have := HNM.out; omega) (by have := HNM.out; omega))).mono ?_
      rintro e w4 ⟨hb4, he⟩
      have hr : ∃ r : Int, e = .returned (.int .i64 r) ∧ ((r = -1 ∧ ∀ x ∈ ss, decide (x ≤ most - n) = false) ∨ ∃ q : Nat, r = q ∧ q < ss.length ∧ (∀ x ∈ ss.take q, decide (x ≤ most - n) = false) ∧ ∀ x, ss[q]? = some x → decide (x ≤ most - n) = true) := by
        rcases he with ⟨rfl, h1⟩ | ⟨q, rfl, h1⟩
        · exact ⟨_, rfl, .inl ⟨rfl, h1⟩⟩
        · exact ⟨_, rfl, .inr ⟨q, rfl, h1⟩⟩
      clear he
      obtain ⟨r, rfl, hr⟩ := hr
      have HRR2 := Lib.hid hr
      clear hr
      have b4 : Below wr.heap.size wr w4 := btrans0 b3 hb4
      have HB4 := Lib.hid (HBS.out.step b4)
      have HM4 := Lib.hid ((HBS.out.num HN3.out).step hb4)
      obtain ⟨p, hp⟩ : ∃ p, wr.heap.size = p := ⟨_, rfl⟩
      rw [hp] at HM4
      have hB4 := HB4.out.below
      have zW : w.heap.size + 1 ≤ w4.heap.size := by have := b4.size; omega
      clear b3 hb4 HN3 c1
      go_upto_if 38 with fail
      go_cut [6, 7, 10] (fun s6 s7 s10 wx => PMid l most w R k n wr.heap.size s6 s7 s10 wx)
      case first =>
        rcases HRR2.out with ⟨rfl, hall⟩ | ⟨q, rfl, hq, h1, h2⟩
        · have dm : decide ((-1 : Int) < 0) = true := by decide
          obtain ⟨i0, hin, hz0, hz1, hz2⟩ := info_parts infoInt
          obtain ⟨i1, hjn, hj0, hj1, hj2⟩ := info_parts infoInts
          have HALL := Lib.hid hall
          clear hall
          go_wp2_with (first | (at_builtin; refine wpList_append_F _ rfl _ _ _ rfl (w.heap.size + 1) 43 i1 _ 1 24 Tryz.underlying35 hjn hj0 hj1 hj2 rfl (by omega) _ gs.length vals rfl (own_kept1 HB4.out.out.1 (fun q hq => Below.heap_alloc _ _ _ (HB4.out.out.1.lt q hq).2)) ⟨w4.heap.size, 0, none⟩ 1 1 [.slice none 0 0] rfl rfl (news_one heap_new) (by simp [Value.oneCell']) (by have := HB4.out.len; simp only [maxLen]; omega) (by have := HB4.out.len; omega) (by simp; omega) (by omega) ?_; intro v5 w5 hO5 hg5 hf5) | (at_builtin; refine wpList_append_F _ rfl _ _ _ rfl (w.heap.size + 1) 3 i0 _ 1 8 Tryz.underlying43 hin hz0 hz1 hz2 rfl (by omega) _ ss.length (ints ss) rfl (mid_row HB4.out hg5) ⟨w5.heap.size, 0, none⟩ 1 1 [.int .i64 0] rfl rfl (news_one heap_new) (by simp [Value.oneCell']) (by simp only [maxLen]; omega) (by omega) (by have := hg5.size; simp at this; simp; omega) (by omega) ?_; intro v6 w6 hO6 hg6 hf6))
          go_meet
          exact mid_new HX.out HPK.out hgk HGL0.out HNM.out HALL.out HB4.out (hp ▸ HM4.out) hO5 hg5 hf5 hO6 hg6 hf6
        · have dm : decide ((q : Int) < 0) = false := by rw [decide_eq_false_iff_not]; omega
          have H1 := Lib.hid h1
          have H2 := Lib.hid h2
          clear h1 h2
          go_wp2_with fail
          go_meet
          exact mid_old HX.out HPK.out hgk HGL0.out hq H1.out H2.out HB4.out (hp ▸ HM4.out)
      case rest =>
        rw [hp] at hcut
        obtain ⟨q, gs', ss', vals', rfl, hq, hpk, hgk', hgl', hsn, hb', hn'⟩ := hcut
        have HGL1 := Lib.hid hgl'
        have HPK1 := Lib.hid hpk
        have HSN1 := Lib.hid hsn
        clear hgl' hpk hsn
        obtain ⟨w5, rfl⟩ : ∃ q, q = wc := ⟨_, rfl⟩
        obtain ⟨g7, c7', rfl⟩ := own_form hb'.row (by omega)
        obtain ⟨go, c6', rfl⟩ := own_form hb'.out.1 (by rw [hb'.len]; omega)
        obtain ⟨s, hs⟩ : ∃ s, ss'[q]? = some s := ⟨_, List.getElem?_eq_getElem hq⟩
        obtain ⟨x, g, hx, hg, hxo⟩ := hb'.out.at (k := q) (by rw [hb'.len]; exact hq)
        obtain ⟨ax, cx, rfl⟩ := own_shape hxo
        have HGL := Lib.hid (HGL1.out g (List.mem_of_getElem? hg))
        have q0 : (0 : Int) ≤ (q : Int) := by omega
        have q6 : (q : Int) < (gs'.length : Int) := by have := hb'.len; omega
        have q7 : (q : Int) < (ss'.length : Int) := by omega
        have HB5 := Lib.hid hb'
        have HN5 := Lib.hid hn'
        clear hb' hn'
        go_upto_region 16 with fail
        have hf := fun (o1 : Obj) (w8 : World) (h : (w5.alloc o1).grownBy w8 (Value.slice ax g.length cx).ownBlock) => mid_facts HB5.out HN5.out hs hx h
        obtain ⟨hf0, h67, h6p⟩ := hf (.cells #[.int .i64 k] 3) (w5.alloc (.cells #[.int .i64 k] 3)) ⟨rfl, rfl, rfl, Nat.le_refl _, fun _ _ _ => rfl⟩
        obtain ⟨c6, f6, c7, f7, cp⟩ := hf0 w5 (.inl rfl)
        obtain ⟨d6, e6, d7, e7, dp⟩ := hf0 _ (.inr (.inl rfl))
        obtain ⟨i0, hin, hz0, hz1, hz2⟩ := info_parts infoInt
        have HF := Lib.hid (hf (.cells #[.int .i64 k] 3))
        have hB5 := HB5.out.below
        have hB5s := hB5.size
        have z5 : w.heap.size + 1 ≤ w5.heap.size := by
          rcases Nat.lt_or_ge w.heap.size w5.heap.size with z | z
          · exact z
          · have := HB5.out.box; rw [Array.getElem?_eq_none z] at this; cases this
        have hxo' : (w5.alloc (.cells #[.int .i64 k] 3)).ownsRow (w.heap.size + 1) 3 1 (.slice ax g.length cx) g.length (ints g) := own_kept1 hxo (fun q hq => Below.heap_alloc _ _ _ (hxo.lt q hq).2)
        clear hf hf0
        refine wp_region_tree (fun V => V.cell? ⟨g7, q, none⟩ = some (.int .i64 s) ∧ V.cell? ⟨p, 0, none⟩ = some (.int .i64 n)) [0, 0, 0, 0, 0, 0, 0, 2, 0, 2, 2, 0, 0, 0, 1, 1, 0, 0, 2, 0, 3] (.go 0 (.go 1 (.go 2 (.go 3 (.go 4 (.go 5 (.go 6 (.go 8 (.go 11 (.go 12 (.go 13 (.go 14 (.go 15 (.go 16 (.br2 7 9 (.go 9 (.go 10 (.go 17 (.go 18 (.go 19 (.go 20 .fin)))))) (.go 7 (.go 10 (.go 17 (.go 18 (.go 19 (.go 20 .fin))))))))))))))))))))) (by kernel_rfl) (by kernel_rfl) ?_ ?_
        case refine_1 => exact ⟨c7, cp⟩
        (iterate 14 (refine tree_held rfl (by decide) (by rfl) (fun w1 hS => by (try (obtain ⟨_, _⟩ := hS rfl)); go_simp; rfl) ?_; (try simp only [Act.put, List.setIfInBounds_toArray, List.set_cons_zero, List.set_cons_succ])))
        refine ⟨?_, ?_⟩
        · refine tree_op rfl (by rfl) (fun K hK => ?_)
          go_simp
          refine hK _ _ ⟨c7, cp⟩ ?_
          clear hK K
          (try simp only [Act.put, List.setIfInBounds_toArray, List.set_cons_zero, List.set_cons_succ])
          refine tree_keep rfl rfl (by rfl) (fun K hK => ?_)
          go_simp
          refine hK _ _ ⟨d7, dp⟩ ?_
          clear hK K
          (try simp only [Act.put, List.setIfInBounds_toArray, List.set_cons_zero, List.set_cons_succ])
          refine tree_keep rfl rfl (by rfl) (fun K hK => ?_)
          refine wp_append_F _ _ _ _ rfl (w.heap.size + 1) 3 i0 _ 1 8 Tryz.underlying43 hin hz0 hz1 hz2 rfl (by omega) (.slice ax g.length cx) g.length (ints g) rfl hxo' ⟨w5.heap.size, 0, none⟩ 1 1 [.int .i64 k] rfl rfl (news_one heap_new) (by simp [Value.oneCell']) (by have := HGL.out; simp only [maxLen]; omega) (by have := HGL.out; omega) (by simp; omega) (by omega) ?_
          intro x' w8 ho8 hg8' hf8
          have hg8 : (w5.alloc (.cells #[.int .i64 k] 3)).grownBy w8 (Value.slice ax g.length cx).ownBlock := ⟨hg8'.os, hg8'.tape, hg8'.output, hg8'.size, hg8'.block⟩
          clear hg8'
          obtain ⟨hf1, _, _⟩ := HF.out w8 hg8
          obtain ⟨m6, n6, m7, n7, mp⟩ := hf1 w8 (.inr (.inr rfl))
          obtain ⟨ax', cx', rfl⟩ := own_shape ho8
          have HO8 := Lib.hid ho8
          have HG8 := Lib.hid hg8
          have HF8 := Lib.hid hf8
          refine hK _ _ ⟨m7, mp⟩ ?_
          clear hK K hf1 ho8 hg8 hf8
          (try simp only [Act.put, List.setIfInBounds_toArray, List.set_cons_zero, List.set_cons_succ])
          (refine tree_held rfl (by decide) (by rfl) (fun w1 hS => by (try (obtain ⟨_, _⟩ := hS rfl)); go_simp; rfl) ?_; (try simp only [Act.put, List.setIfInBounds_toArray, List.set_cons_zero, List.set_cons_succ]))
          refine tree_keep rfl rfl (by rfl) (fun K hK => ?_)
          go_simp
          have e6 : ∀ (u : Value) o, (w8.setCell ⟨go, q, none⟩ u).cell? ⟨g7, o, none⟩ = w8.cell? ⟨g7, o, none⟩ := fun u o => World.cell?_of_block (heap_setCell_other w8 ⟨go, q, none⟩ g7 u (fun e => h67 e.symm))
          have e6f : ∀ (u : Value) o, (w8.setCell ⟨go, q, none⟩ u).frozen? ⟨g7, o, none⟩ = w8.frozen? ⟨g7, o, none⟩ := fun u o => World.frozen?_of_block (heap_setCell_other w8 ⟨go, q, none⟩ g7 u (fun e => h67 e.symm))
          have e6p : ∀ (u : Value) o, (w8.setCell ⟨go, q, none⟩ u).cell? ⟨p, o, none⟩ = w8.cell? ⟨p, o, none⟩ := fun u o => World.cell?_of_block (heap_setCell_other w8 ⟨go, q, none⟩ p u (fun e => h6p e.symm))
          refine hK _ _ ⟨(e6 _ _).trans m7, (e6p _ _).trans mp⟩ ?_
          clear hK K
          (try simp only [Act.put, List.setIfInBounds_toArray, List.set_cons_zero, List.set_cons_succ])
          (refine tree_held rfl (by decide) (by rfl) (fun w1 hS => by (try (obtain ⟨_, _⟩ := hS rfl)); go_simp; rfl) ?_; (try simp only [Act.put, List.setIfInBounds_toArray, List.set_cons_zero, List.set_cons_succ]))
          refine tree_late rfl rfl (by rfl) (fun K hK => ?_)
          have r7 := (e6 (.slice ax' (g.length + 1) cx') q).trans m7
          have r7f := (e6f (.slice ax' (g.length + 1) cx') q).trans n7
          clear e6 e6f e6p
          go_simp
          refine hK _ _ ?_
          clear hK K
          (try simp only [Act.put, List.setIfInBounds_toArray, List.set_cons_zero, List.set_cons_succ])
          refine tree_fin ?_
          go_wp2
          refine ⟨?_, by simp [intOf]; omega⟩
          have hs0 := HB5.out.sums s (List.mem_of_getElem? hs)
          have hsn := HSN1.out s hs
          have hn1 := HNM.out.1
          rw [show wrap64 (s + n) = s + n by unfold wrap64; omega]
          exact mid_end hlt HPK1.out hgk' HGL1.out hq hn1 HB5.out hs hsn hx hg HO8.out HG8.out HF8.out
        · refine tree_op rfl (by rfl) (fun K hK => ?_)
          go_simp
          refine hK _ _ ⟨d7, dp⟩ ?_
          clear hK K
          (try simp only [Act.put, List.setIfInBounds_toArray, List.set_cons_zero, List.set_cons_succ])
          refine tree_keep rfl rfl (by rfl) (fun K hK => ?_)
          go_simp
          refine hK _ _ ⟨d7, dp⟩ ?_
          clear hK K
          (try simp only [Act.put, List.setIfInBounds_toArray, List.set_cons_zero, List.set_cons_succ])
          refine tree_keep rfl rfl (by rfl) (fun K hK => ?_)
          refine wp_append_F _ _ _ _ rfl (w.heap.size + 1) 3 i0 _ 1 8 Tryz.underlying43 hin hz0 hz1 hz2 rfl (by omega) (.slice ax g.length cx) g.length (ints g) rfl hxo' ⟨w5.heap.size, 0, none⟩ 1 1 [.int .i64 k] rfl rfl (news_one heap_new) (by simp [Value.oneCell']) (by have := HGL.out; simp only [maxLen]; omega) (by have := HGL.out; omega) (by simp; omega) (by omega) ?_
          intro x' w8 ho8 hg8' hf8
          have hg8 : (w5.alloc (.cells #[.int .i64 k] 3)).grownBy w8 (Value.slice ax g.length cx).ownBlock := ⟨hg8'.os, hg8'.tape, hg8'.output, hg8'.size, hg8'.block⟩
          clear hg8'
          obtain ⟨hf1, _, _⟩ := HF.out w8 hg8
          obtain ⟨m6, n6, m7, n7, mp⟩ := hf1 w8 (.inr (.inr rfl))
          obtain ⟨ax', cx', rfl⟩ := own_shape ho8
          have HO8 := Lib.hid ho8
          have HG8 := Lib.hid hg8
          have HF8 := Lib.hid hf8
          refine hK _ _ ⟨m7, mp⟩ ?_
          clear hK K hf1 ho8 hg8 hf8
          (try simp only [Act.put, List.setIfInBounds_toArray, List.set_cons_zero, List.set_cons_succ])
          (refine tree_held rfl (by decide) (by rfl) (fun w1 hS => by (try (obtain ⟨_, _⟩ := hS rfl)); go_simp; rfl) ?_; (try simp only [Act.put, List.setIfInBounds_toArray, List.set_cons_zero, List.set_cons_succ]))
          refine tree_keep rfl rfl (by rfl) (fun K hK => ?_)
          go_simp
          have e6 : ∀ (u : Value) o, (w8.setCell ⟨go, q, none⟩ u).cell? ⟨g7, o, none⟩ = w8.cell? ⟨g7, o, none⟩ := fun u o => World.cell?_of_block (heap_setCell_other w8 ⟨go, q, none⟩ g7 u (fun e => h67 e.symm))
          have e6f : ∀ (u : Value) o, (w8.setCell ⟨go, q, none⟩ u).frozen? ⟨g7, o, none⟩ = w8.frozen? ⟨g7, o, none⟩ := fun u o => World.frozen?_of_block (heap_setCell_other w8 ⟨go, q, none⟩ g7 u (fun e => h67 e.symm))
          have e6p : ∀ (u : Value) o, (w8.setCell ⟨go, q, none⟩ u).cell? ⟨p, o, none⟩ = w8.cell? ⟨p, o, none⟩ := fun u o => World.cell?_of_block (heap_setCell_other w8 ⟨go, q, none⟩ p u (fun e => h6p e.symm))
          refine hK _ _ ⟨(e6 _ _).trans m7, (e6p _ _).trans mp⟩ ?_
          clear hK K
          (try simp only [Act.put, List.setIfInBounds_toArray, List.set_cons_zero, List.set_cons_succ])
          (refine tree_held rfl (by decide) (by rfl) (fun w1 hS => by (try (obtain ⟨_, _⟩ := hS rfl)); go_simp; rfl) ?_; (try simp only [Act.put, List.setIfInBounds_toArray, List.set_cons_zero, List.set_cons_succ]))
          refine tree_late rfl rfl (by rfl) (fun K hK => ?_)
          have r7 := (e6 (.slice ax' (g.length + 1) cx') q).trans m7
          have r7f := (e6f (.slice ax' (g.length + 1) cx') q).trans n7
          clear e6 e6f e6p
          go_simp
          refine hK _ _ ?_
          clear hK K
          (try simp only [Act.put, List.setIfInBounds_toArray, List.set_cons_zero, List.set_cons_succ])
          refine tree_fin ?_
          go_wp2
          refine ⟨?_, by simp [intOf]; omega⟩
          have hs0 := HB5.out.sums s (List.mem_of_getElem? hs)
          have hsn := HSN1.out s hs
          have hn1 := HNM.out.1
          rw [show wrap64 (s + n) = s + n by unfold wrap64; omega]
          exact mid_end hlt HPK1.out hgk' HGL1.out hq hn1 HB5.out hs hsn hx hg HO8.out HG8.out HF8.out
    · obtain rfl : k = l.length := by omega
      go_wp2
      go_ret2
      unfold PackPost
      rw [HP0.out]
      have hR := HPK.out
      rw [List.drop_length] at hR
      exact ⟨_, rfl, hB, ⟨vals, by rw [← hR]; exact HBS.out.out.le (by omega)⟩⟩
end Go.Proofs.YtpkklmkeflddkaaGreat
