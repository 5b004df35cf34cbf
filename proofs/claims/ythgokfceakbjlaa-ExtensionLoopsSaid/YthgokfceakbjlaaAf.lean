/- Layer 14 (extension): node; the parser of the visited nodes. -/
import Derived.Test.YthgokfceakbjlaaAd
set_option linter.unusedVariables false
set_option linter.unusedSimpArgs false
namespace Go.Proofs.Ythgokfceakbjlaa
open Go Go.RowKit
attribute [local go_sem] B_getElem B_size B_app B_extract B_get B_toList

set_option maxHeartbeats 400000 in
theorem node_any (n : Int) (w : World) : Calls Try.prog 41 #[.int .i64 n] w fun e w' => e = .returned (.bool (nodeB n)) ∧ w' = w := by
  have HD : Hid (nodeB n = decide (0 ≤ n ∧ n < 16)) := Lib.hid rfl
  go_enter Try.func41, Try.ntmps41
  go_wp2
  all_goals
    go_ret
    refine ⟨ret_bool ?_, rfl⟩
    rw [HD.out]
    first | (symm; rw [decide_eq_false_iff_not]; (try simp only [Bool.not_eq_true', Bool.not_eq_false', decide_eq_true_eq, decide_eq_false_iff_not, beq_iff_eq, beq_eq_false_iff_ne, bne_iff_ne, bne_eq_false_iff_eq, ne_eq, Bool.and_eq_true, Bool.or_eq_true, Bool.and_eq_false_imp, Bool.or_eq_false_iff] at *); omega) | ((try simp only [Bool.not_eq_true', Bool.not_eq_false', decide_eq_true_eq, decide_eq_false_iff_not, beq_iff_eq, beq_eq_false_iff_ne, bne_iff_ne, bne_eq_false_iff_eq, ne_eq, Bool.and_eq_true, Bool.or_eq_true, Bool.and_eq_false_imp, Bool.or_eq_false_iff] at *); rw [Bool.eq_iff_iff]; simp only [decide_eq_true_eq]; omega)
theorem readlist_any (s : List UInt8) (w : World) (hs : s.length ≤ 1000000) : Calls Try.prog 81 #[.string (B s)] w (RLPost s w) := by
  obtain ⟨⟨n, k, e⟩, h⟩ : ∃ x, lenS s = x := ⟨_, rfl⟩
  by_cases he : e = 0
  · subst he
    obtain ⟨q1, q2, q3, q4, q5⟩ := (lenS_ok h).1 rfl
    exact readlist_ok s n.toNat k.toNat w hs (by rw [h, Int.toNat_of_nonneg q4, Int.toNat_of_nonneg (by omega)])
  · exact readlist_bad s n k e w hs h he
theorem take_one {l : List Int} {k : Nat} {x : Int} (h : l[k]? = some x) : l.take (k + 1) = l.take k ++ [x] := by rw [List.take_add_one, h]; rfl
theorem visB_take {l : List Int} (h : visB l = true) (k : Nat) : visB (l.take k) = true := by
  unfold visB at h ⊢
  simp only [Bool.and_eq_true, decide_eq_true_eq, List.all_eq_true] at h ⊢
  exact ⟨fun x hx => h.1 x (List.mem_of_mem_take hx), h.2.sublist (List.take_sublist k l)⟩
theorem RInts.take {w : World} {N : Nat} {a : Option Addr} {n c : Nat} {l : List Int} (h : RInts w N (.slice a n c) l) (k : Nat) (hk : k ≤ l.length) : RInts w N (.slice a k c) (l.take k) := by
  obtain ⟨a', c', e1, e2, e3, e4, e5⟩ := h
  injection e1 with q1 q2 q3
  subst q1 q2 q3
  have hl : (l.take k).length = k := by rw [List.length_take]; omega
  refine ⟨a, c, by rw [hl], by omega, e3, e4, fun hp => ?_⟩
  obtain ⟨b, o, ea, hb, hi⟩ := e5 (by omega)
  exact ⟨b, o, ea, hb, fun i x hx => hi i x (by rw [List.getElem?_take] at hx; split at hx; exact hx; cases hx)⟩
set_option maxRecDepth 100000 in
set_option maxHeartbeats 4000000 in
theorem parse3_any (s : List UInt8) (w : World) (hs : s.length ≤ 1000000) :
    Calls Try.prog 80 #[.string (B s)] w (ParsePost (num3 s) w) := by
  go_enter Try.func80, Try.ntmps80
  go_wp2_with fail
  refine (readlist_any s _ hs).mono ?_
  unfold RLPost
  rintro e w1 ⟨v, l, k, E, rfl, hb1, hri, hres⟩
  have hB1 : Below w.heap.size w w1 := (by repeat' (first | with_reducible (first | refine bset ?_ ?_ | exact Below.refl _ _ | assumption | refine bdrewN ?_ _ | refine bdrew ?_ | refine balloc0 ?_ | refine balloc ?_ ?_ | (apply btrans0; rotate_left; assumption) | (apply btrans; rotate_left; assumption)) | exact Below.refl _ _ | assumption | (apply btrans0; rotate_left; assumption) | (apply btrans; rotate_left; assumption) | (simp; done) | omega | (simp; omega)))
  by_cases hE : E = 0
  case neg =>
    have he2 : (E != 0) = true := by rw [bne_iff_ne]; exact hE
    have HNO : Hid (num3 s = none) := Lib.hid (by
      rcases hres with ⟨_, _, _, h⟩ | ⟨h, _⟩
      · unfold num3; rw [h]
      · exact absurd h hE)
    clear hres hE hri hb1
    go_wp2
    go_ret2
    unfold ParsePost
    exact ⟨_, [], false, rfl, (by repeat' (first | with_reducible (first | refine bset ?_ ?_ | exact Below.refl _ _ | assumption | refine bdrewN ?_ _ | refine bdrew ?_ | refine balloc0 ?_ | refine balloc ?_ ?_ | (apply btrans0; rotate_left; assumption) | (apply btrans; rotate_left; assumption)) | exact Below.refl _ _ | assumption | (apply btrans0; rotate_left; assumption) | (apply btrans; rotate_left; assumption) | (simp; done) | omega | (simp; omega))), RInts.nil0 _ _, HNO.out⟩
  obtain ⟨m, rfl, hls⟩ : ∃ m : Nat, k = m ∧ lstR s = some (l, m) := by
    rcases hres with ⟨h, _⟩ | ⟨_, h⟩
    · exact absurd hE h
    · exact h
  subst hE
  have hll : l.length ≤ s.length := by
    obtain ⟨_, _, _, _, _, _, _, _, _, h⟩ := lstR_some hls
    exact h
  have hnum : num3 s = if m = s.length ∧ visB l = true then some l else none := by unfold num3; rw [hls]
  have HNUM := Lib.hid hnum
  clear hres hls hb1 hnum
  by_cases hm : m = s.length
  case neg =>
    have hm2 : ((m : Int) != (s.length : Int)) = true := by rw [bne_iff_ne]; omega
    have hm3 : ((m : Int) == (s.length : Int)) = false := by rw [beq_eq_false_iff_ne]; omega
    have HNO : Hid (num3 s = none) := Lib.hid (by rw [HNUM.out, if_neg (fun h => hm h.1)])
    clear hm hri
    go_wp2
    go_ret2
    unfold ParsePost
    exact ⟨_, [], false, rfl, (by repeat' (first | with_reducible (first | refine bset ?_ ?_ | exact Below.refl _ _ | assumption | refine bdrewN ?_ _ | refine bdrew ?_ | refine balloc0 ?_ | refine balloc ?_ ?_ | (apply btrans0; rotate_left; assumption) | (apply btrans; rotate_left; assumption)) | exact Below.refl _ _ | assumption | (apply btrans0; rotate_left; assumption) | (apply btrans; rotate_left; assumption) | (simp; done) | omega | (simp; omega))), RInts.nil0 _ _, HNO.out⟩
  have hm2 : ((m : Int) != (s.length : Int)) = false := by rw [hm]; simp
  have hm3 : ((m : Int) == (s.length : Int)) = true := by rw [hm]; simp
  have HM := Lib.hid hm
  obtain ⟨a, c, rfl, h1, h2, h3, h4⟩ := id hri
  unfold maxLen at h2
  have H4 := Lib.hid h4
  have HRI := Lib.hid hri
  clear hm hri h3 h4
  have hl0 : l.length ≤ 1000000 := by omega
  go_wp2
  go_loop [25] (fun i => ∃ k : Nat, k ≤ l.length ∧ i = .int .i64 k ∧ Hid (visB (l.take k) = true)) (fun i => l.length - (intOf i).toNat)
  case atStart => exact ⟨0, Nat.zero_le _, rfl, Lib.hid (by rw [List.take_zero]; decide)⟩
  case round =>
    obtain ⟨k, hk, rfl, HV⟩ := hrel
    have k0 : (0 : Int) ≤ (k : Int) := by omega
    by_cases hlt : k < l.length
    · obtain ⟨b, o, rfl, hbn, hcell⟩ := H4.out (by omega)
      obtain ⟨x, hx⟩ : ∃ x, l[k]? = some x := ⟨_, List.getElem?_eq_getElem hlt⟩
      have c1 := hcell k x hx
      have k1 : (k : Int) < (l.length : Int) := by omega
      have kc : (k : Int) ≤ (c : Int) := by omega
      obtain ⟨p, hp⟩ : ∃ p, nodeB x = p := ⟨_, rfl⟩
      obtain ⟨q, hq⟩ : ∃ p, (l.take k).contains x = p := ⟨_, rfl⟩
      have hs2 := visB_snoc (l.take k) x
      rw [← take_one hx, HV.out, hp, hq, Bool.true_and] at hs2
      have HS := Lib.hid hs2
      have HP := Lib.hid hp
      have HQ := Lib.hid hq
      have HT := Lib.hid (HRI.out.take k (by omega))
      clear hcell hx hp hq hs2 HV
      cases p with
      | false =>
        have HNO : Hid (num3 s = none) := Lib.hid (by rw [HNUM.out, if_neg (fun h => by have := visB_take h.2 (k + 1); rw [HS.out] at this; simp at this)])
        go_wp2_with fail
        refine (node_any x _).mono ?_
        rw [HP.out]
        rintro e w2 ⟨rfl, rfl⟩
        go_wp2_with fail
        go_ret2
        unfold ParsePost
        exact ⟨_, [], false, rfl, (by repeat' (first | with_reducible (first | refine bset ?_ ?_ | exact Below.refl _ _ | assumption | refine bdrewN ?_ _ | refine bdrew ?_ | refine balloc0 ?_ | refine balloc ?_ ?_ | (apply btrans0; rotate_left; assumption) | (apply btrans; rotate_left; assumption)) | exact Below.refl _ _ | assumption | (apply btrans0; rotate_left; assumption) | (apply btrans; rotate_left; assumption) | (simp; done) | omega | (simp; omega))), RInts.nil0 _ _, HNO.out⟩
      | true =>
        cases q with
        | true =>
          have HNO : Hid (num3 s = none) := Lib.hid (by rw [HNUM.out, if_neg (fun h => by have := visB_take h.2 (k + 1); rw [HS.out] at this; simp at this)])
          go_wp2_with fail
          refine (node_any x _).mono ?_
          rw [HP.out]
          rintro e w2 ⟨rfl, rfl⟩
          go_wp2_with fail
          refine (contains_any (l.take k) _ x _ HT.out).mono ?_
          rw [HQ.out]
          rintro e w2 ⟨rfl, rfl⟩
          go_wp2_with fail
          go_ret2
          unfold ParsePost
          exact ⟨_, [], false, rfl, (by repeat' (first | with_reducible (first | refine bset ?_ ?_ | exact Below.refl _ _ | assumption | refine bdrewN ?_ _ | refine bdrew ?_ | refine balloc0 ?_ | refine balloc ?_ ?_ | (apply btrans0; rotate_left; assumption) | (apply btrans; rotate_left; assumption)) | exact Below.refl _ _ | assumption | (apply btrans0; rotate_left; assumption) | (apply btrans; rotate_left; assumption) | (simp; done) | omega | (simp; omega))), RInts.nil0 _ _, HNO.out⟩
        | false =>
          go_wp2_with fail
          refine (node_any x _).mono ?_
          rw [HP.out]
          rintro e w2 ⟨rfl, rfl⟩
          go_wp2_with fail
          refine (contains_any (l.take k) _ x _ HT.out).mono ?_
          rw [HQ.out]
          rintro e w2 ⟨rfl, rfl⟩
          go_wp2_with fail
          go_round
          case rel => exact ⟨k + 1, by omega, by go_num, HS⟩
          case measure => simp [intOf]; omega
    · obtain rfl : k = l.length := by omega
      have HSm : Hid (num3 s = some l) := Lib.hid (by
        have := HV.out
        rw [List.take_length] at this
        rw [HNUM.out, if_pos ⟨HM.out, this⟩])
      clear HV
      go_wp2
      go_ret2
      unfold ParsePost
      exact ⟨_, l, true, rfl, (by repeat' (first | with_reducible (first | refine bset ?_ ?_ | exact Below.refl _ _ | assumption | refine bdrewN ?_ _ | refine bdrew ?_ | refine balloc0 ?_ | refine balloc ?_ ?_ | (apply btrans0; rotate_left; assumption) | (apply btrans; rotate_left; assumption)) | exact Below.refl _ _ | assumption | (apply btrans0; rotate_left; assumption) | (apply btrans; rotate_left; assumption) | (simp; done) | omega | (simp; omega))), HRI.out.below (C := w1.heap.size) (by repeat' (first | with_reducible (first | refine bset ?_ ?_ | exact Below.refl _ _ | assumption | refine bdrewN ?_ _ | refine bdrew ?_ | refine balloc0 ?_ | refine balloc ?_ ?_ | (apply btrans0; rotate_left; assumption) | (apply btrans; rotate_left; assumption)) | exact Below.refl _ _ | assumption | (apply btrans0; rotate_left; assumption) | (apply btrans; rotate_left; assumption) | (simp; done) | omega | (simp; omega))) (Nat.le_refl _) (Nat.le_refl _), HSm.out⟩
end Go.Proofs.Ythgokfceakbjlaa
