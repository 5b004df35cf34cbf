/- Layer 14 (extension): varint.ReadList, of the program. -/
import Derived.Test.YthgokfceakbjlaaAk
set_option linter.unusedVariables false
set_option linter.unusedSimpArgs false
namespace Go.Proofs.Ythgokfceakbjlaa
open Go Go.RowKit
attribute [local go_sem] B_getElem B_size B_app B_extract B_get B_toList

/-- a list was read, or it was not -/
def RLPost (s : List UInt8) (w : World) (e : Ending) (w' : World) : Prop :=
  ∃ (v : Value) (l : List Int) (k E : Int), e = .returned (.tuple #[v, .int .i64 k, .int .i64 E]) ∧ Below w.heap.size w w' ∧ RInts w' w'.heap.size v l ∧ ((E ≠ 0 ∧ l = [] ∧ k = 0 ∧ lstR s = none) ∨ (E = 0 ∧ ∃ m : Nat, k = m ∧ lstR s = some (l, m)))
theorem RInts.nil0 (w : World) (N : Nat) : RInts w N (.slice none 0 0) [] := ⟨none, 0, rfl, Nat.le_refl _, by simp [maxLen], fun _ => rfl, fun h => by simp at h⟩
theorem moreN_none {l : List Int} {d : Nat} {r : Option (List Int × Nat)} (h : moreN l d r = none) : r = none := by
  cases r with
  | none => rfl
  | some r => simp [moreN] at h
set_option maxRecDepth 100000 in
set_option maxHeartbeats 4000000 in
theorem readlist_bad (s : List UInt8) (n1 k1 e1 : Int) (w : World) (hs : s.length ≤ 1000000) (h1 : lenS s = (n1, k1, e1)) (he : e1 ≠ 0) :
    Calls Try.prog 81 #[.string (B s)] w (RLPost s w) := by
  have H1 := Lib.hid h1
  have hno := lstR_none h1 he
  have HNO := Lib.hid hno
  have he1 : (e1 == 0) = false := beq_eq_false_iff_ne.2 he
  have he2 : (e1 != 0) = true := by rw [bne_iff_ne]; exact he
  have HE := Lib.hid he
  obtain ⟨rfl, rfl⟩ := lenS_err h1 he
  clear hno h1 he
  go_enter Try.func81, Try.ntmps81
  go_wp2_with fail
  refine (length_any s 0 0 0 e1 w.heap.size _ (by exact heap_new) (by omega) (by omega) (by simpa using H1.out)).mono ?_
  rintro e' w1 ⟨rfl, hb1, hs1, a', hz1, ha0, ha1, hak⟩
  have z1 : w.heap.size < w1.heap.size := by simp at hs1; omega
  have hB1 : Below w.heap.size w w1 := ((Below.refl _ _).alloc (Nat.le_refl _) _).trans hb1
  have ca := fun o => cellB hz1 o
  simp only [RdrC] at ca
  clear hb1 hs1 hz1 hak
  go_wp2
  go_loop [7, 8] (fun o i => o = .slice none 0 0 ∧ i = .int .i64 0) (fun _ _ => 0)
  case atStart => exact ⟨rfl, rfl⟩
  case round =>
    obtain ⟨rfl, rfl⟩ := hrel
    go_wp2
    refine wp_region_plan (fun V => V.cell? ⟨w.heap.size, 2, none⟩ = some (.int .i64 e1)) [0, 0, 0, 1, 0, 0, 0] [0, 1, 2, 3, 4, 5, 6] (by kernel_rfl) (by kernel_rfl) ?_ ?_
    case refine_1 => simp [ca]
    (iterate 7 (refine plan_held rfl (by decide) (by rfl) (fun w1 hS => by (try (have hS := hS rfl; obtain hS := hS; repeat (obtain ⟨_, hS⟩ := hS))); go_simp; rfl) ?_; simp only [Act.put, List.setIfInBounds_toArray, List.set_cons_zero, List.set_cons_succ]))
    refine plan_done ?_
    go_wp2
    go_ret3
    unfold RLPost
    exact ⟨_, [], 0, e1, rfl, (by repeat' (first | with_reducible (first | refine bset ?_ ?_ | exact Below.refl _ _ | assumption | refine bdrewN ?_ _ | refine bdrew ?_ | refine balloc0 ?_ | refine balloc ?_ ?_ | (apply btrans0; rotate_left; assumption) | (apply btrans; rotate_left; assumption)) | exact Below.refl _ _ | assumption | (apply btrans0; rotate_left; assumption) | (apply btrans; rotate_left; assumption) | (simp; done) | omega | (simp; omega))), RInts.nil0 _ _, .inl ⟨HE.out, rfl, rfl, HNO.out⟩⟩
set_option maxRecDepth 100000 in
set_option maxHeartbeats 8000000 in
theorem readlist_ok (s : List UInt8) (N K : Nat) (w : World) (hs : s.length ≤ 1000000) (h1 : lenS s = ((N : Int), (K : Int), 0)) :
    Calls Try.prog 81 #[.string (B s)] w (RLPost s w) := by
  have H1 := Lib.hid h1
  obtain ⟨i0, hin, hz0, hz1, hz2⟩ := info_parts infoInt
  obtain ⟨q1, q2, q3, q4, q5⟩ := (lenS_ok h1).1 rfl
  have hKs : K ≤ s.length := by omega
  have hN : N ≤ 65536 := by omega
  obtain ⟨R, hR⟩ : ∃ q, rdNs N (s.drop K) = q := ⟨_, rfl⟩
  have HNone : Hid (R = none → lstR s = none) := Lib.hid (fun h => lstR_none2 h1 (hR.trans h))
  have HSome : Hid (∀ l m, R = some (l, m) → lstR s = some (l, K + m)) := Lib.hid (fun l m h => lstR_of h1 (hR.trans h))
  have HR0 : Hid (moreN [] (K - K) (rdNs (N - 0) (s.drop K)) = R) := Lib.hid (by rw [← hR, Nat.sub_self, Nat.sub_zero]; cases rdNs N (s.drop K) with | none => rfl | some r => simp [moreN])
  clear h1 hR q1 q2 q3 q4 q5
  go_enter Try.func81, Try.ntmps81
  go_wp2_with fail
  refine (length_any s 0 N K 0 w.heap.size _ (by exact heap_new) (by omega) (by omega) (by simpa using H1.out)).mono ?_
  rintro e' w1 ⟨rfl, hb1, hs1, a', hz1', ha0, ha1, hak⟩
  have hak2 := hak rfl
  obtain rfl : a' = (K : Int) := by simpa using hak2
  have z1 : w.heap.size < w1.heap.size := by simp at hs1; omega
  have hB1 : Below w.heap.size w w1 := ((Below.refl _ _).alloc (Nat.le_refl _) _).trans hb1
  have HZ1 := Lib.hid hz1'
  clear hb1 hs1 hz1' hak hak2 ha0 ha1
  go_wp2
  go_loopw [7, 8] (fun o i wr => ∃ (j p : Nat) (l : List Int) (E : Int), i = .int .i64 j ∧ j ≤ N ∧ l.length = j ∧ K ≤ p ∧ p ≤ s.length ∧ wr.ownsRow w1.heap.size 3 1 o j (ints l) ∧ wr.heap[w.heap.size]? = some (.cells (RdrC s (p : Int) E) 108 (0, 0)) ∧ Below w.heap.size w1 wr ∧ w1.heap.size ≤ wr.heap.size ∧ Hid ((E = 0 ∧ moreN l (p - K) (rdNs (N - j) (s.drop p)) = R) ∨ (E ≠ 0 ∧ R = none))) (fun _ i _ => N - (intOf i).toNat)
  case atStart => exact ⟨0, K, [], 0, rfl, by omega, rfl, Nat.le_refl _, hKs, World.ownsRow_nil _ _ _ _, HZ1.out, Below.refl _ _, Nat.le_refl _, Lib.hid (.inl ⟨rfl, HR0.out⟩)⟩
  case round =>
    obtain ⟨j, p, l, E, rfl, hj, hl, hp0, hp, hown, hcell, hB, zr, HM⟩ := hrel
    have HLN := Lib.hid hl
    have HC := Lib.hid hcell
    have hBw : Below w.heap.size w wr := hB1.trans hB
    have zw : w.heap.size < wr.heap.size := by omega
    have ca := fun o => cellB hcell o
    simp only [RdrC] at ca
    have k0' : (0 : Int) ≤ (j : Int) := by omega
    clear hl hcell
    by_cases hE : E = 0
    case neg =>
      have HE : Hid (E ≠ 0) := Lib.hid hE
      have HNo : Hid (lstR s = none) := Lib.hid (HNone.out (by rcases HM.out with ⟨a, _⟩ | ⟨_, b⟩; exact absurd a hE; exact b))
      have he1 : (E == 0) = false := beq_eq_false_iff_ne.2 hE
      have he2 : (E != 0) = true := by rw [bne_iff_ne]; exact hE
      clear hE HM
      by_cases hlt : j < N
      all_goals
        go_wp2
        refine wp_region_plan (fun V => V.cell? ⟨w.heap.size, 2, none⟩ = some (.int .i64 E)) [0, 0, 0, 1, 0, 0, 0] [0, 1, 2, 3, 4, 5, 6] (by kernel_rfl) (by kernel_rfl) ?_ ?_
        case refine_1 => simp [ca]
        (iterate 7 (refine plan_held rfl (by decide) (by rfl) (fun w1 hS => by (try (have hS := hS rfl; obtain hS := hS; repeat (obtain ⟨_, hS⟩ := hS))); go_simp; rfl) ?_; simp only [Act.put, List.setIfInBounds_toArray, List.set_cons_zero, List.set_cons_succ]))
        refine plan_done ?_
        go_wp2
        go_ret3
        unfold RLPost
        exact ⟨_, [], 0, E, rfl, (by repeat' (first | with_reducible (first | refine bset ?_ ?_ | exact Below.refl _ _ | assumption | refine bdrewN ?_ _ | refine bdrew ?_ | refine balloc0 ?_ | refine balloc ?_ ?_ | (apply btrans0; rotate_left; assumption) | (apply btrans; rotate_left; assumption)) | exact Below.refl _ _ | assumption | (apply btrans0; rotate_left; assumption) | (apply btrans; rotate_left; assumption) | (simp; done) | omega | (simp; omega))), RInts.nil0 _ _, .inl ⟨HE.out, rfl, rfl, HNo.out⟩⟩
    subst hE
    have hm : moreN l (p - K) (rdNs (N - j) (s.drop p)) = R := by
      rcases HM.out with ⟨_, b⟩ | ⟨a, _⟩
      · exact b
      · exact absurd rfl a
    clear HM
    by_cases hlt : j < N
    · obtain ⟨⟨n, kk, e⟩, hr⟩ : ∃ r, readS (s.drop p) = r := ⟨_, rfl⟩
      rw [show N - j = N - (j + 1) + 1 by omega] at hm
      have hok2 := readS_ok hr
      rw [List.length_drop] at hok2
      have HR := Lib.hid hr
      have k1 : (j : Int) < (N : Int) := by omega
      have HNX : Hid (∃ p2 : Nat, ((p : Int) + kk) = p2 ∧ K ≤ p2 ∧ p2 ≤ s.length ∧ ((e = 0 ∧ moreN (l ++ [n]) (p2 - K) (rdNs (N - (j + 1)) (s.drop p2)) = R) ∨ (e ≠ 0 ∧ R = none))) := Lib.hid (by
        by_cases he : e = 0
        · subst he
          obtain ⟨q1, q2, q3, _, _⟩ := hok2.1 rfl
          rw [moreN_step hr, List.drop_drop] at hm
          refine ⟨p + kk.toNat, by omega, by omega, by omega, .inl ⟨rfl, ?_⟩⟩
          rw [← hm]
          congr 1
          omega
        · rw [moreN_bad hr he] at hm
          obtain ⟨rfl, rfl⟩ := readS_err hr he
          exact ⟨p, by omega, hp0, hp, .inr ⟨he, hm.symm⟩⟩)
      clear hm hr hok2
      go_wp2_with fail
      refine (integerK_any s p n kk e w.heap.size _ HC.out hp (by omega) HR.out).mono ?_
      rintro e' w5 ⟨rfl, hb5, hs5, hc5⟩
      have hown5 := own_kept (W' := w5) hown (fun q hq _ _ _ _ => hb5.2 q (by omega))
      have hB5 : Below w.heap.size w1 w5 := hB.trans hb5.1
      have HC5 := Lib.hid hc5
      have zr5 : w1.heap.size ≤ w5.heap.size := by omega
      clear hc5 hb5 hown ca hs5
      go_wp2_with (at_builtin; refine wpList_append_own _ rfl _ _ _ rfl w1.heap.size 3 i0 _ 1 8 Try.underlying36 hin hz0 hz1 hz2 rfl (by omega) _ _ _ rfl (hown5.alloc _) ⟨w5.heap.size, 0, none⟩ 1 1 [.int .i64 n] rfl rfl (news_one heap_new) (by simp [Value.oneCell']) (by simp only [maxLen]; omega) (by omega) (by simp; omega) ?_; intro v' w6 hO6 hg6 _)
      have hB6 : Below w1.heap.size w5 w6 := (balloc (Below.refl _ _) (by omega)).grown hg6 (by simp; omega) (fun q hq => (hown5.lt q hq).1)
      obtain ⟨p2, hp2, hp3, hp4, hp5⟩ := HNX.out
      have HC6 := (hB6.block _ z1).trans HC5.out
      rw [hp2] at HC6
      have zr6 : w1.heap.size ≤ w6.heap.size := by have := hB6.size; omega
      go_roundw
      case rel => exact ⟨j + 1, p2, l ++ [n], e, by go_num, by omega, by have := HLN.out; simp; omega, hp3, hp4, by simpa [ints] using hO6, HC6, hB5.trans (hB6.mono (by omega)), zr6, Lib.hid hp5⟩
      case measure => simp [intOf]; omega
    · obtain rfl : j = N := by omega
      rw [Nat.sub_self] at hm
      have HSm : Hid (lstR s = some (l, p)) := Lib.hid (by
        have := HSome.out l (p - K) (by rw [← hm]; simp [rdNs, moreN])
        rwa [show K + (p - K) = p by omega] at this)
      have hri := RInts.of_own hown
      have HRI : Hid (∀ V : World, Below wr.heap.size wr V → RInts V V.heap.size _ l) := Lib.hid (fun V hV => hri.below hV (Nat.le_refl _) hV.size)
      have k1 : ¬ (j : Int) < (j : Int) := by omega
      clear hm hri
      go_wp2
      refine wp_region_plan (fun V => V.cell? ⟨w.heap.size, 1, none⟩ = some (.int .i64 (p : Int))) [0, 0, 0, 0, 0, 1, 0, 0, 0] [0, 1, 2, 3, 4, 5, 6, 7, 8] (by kernel_rfl) (by kernel_rfl) ?_ ?_
      case refine_1 => simp [ca]
      (iterate 9 (refine plan_held rfl (by decide) (by rfl) (fun w1 hS => by (try (have hS := hS rfl; obtain hS := hS; repeat (obtain ⟨_, hS⟩ := hS))); go_simp; rfl) ?_; simp only [Act.put, List.setIfInBounds_toArray, List.set_cons_zero, List.set_cons_succ]))
      refine plan_done ?_
      go_wp2
      go_ret3
      unfold RLPost
      exact ⟨_, l, p, 0, rfl, (by repeat' (first | with_reducible (first | refine bset ?_ ?_ | exact Below.refl _ _ | assumption | refine bdrewN ?_ _ | refine bdrew ?_ | refine balloc0 ?_ | refine balloc ?_ ?_ | (apply btrans0; rotate_left; assumption) | (apply btrans; rotate_left; assumption)) | exact Below.refl _ _ | assumption | (apply btrans0; rotate_left; assumption) | (apply btrans; rotate_left; assumption) | (simp; done) | omega | (simp; omega))), HRI.out _ (by repeat' (first | with_reducible (first | refine bset ?_ ?_ | exact Below.refl _ _ | assumption | refine bdrewN ?_ _ | refine bdrew ?_ | refine balloc0 ?_ | refine balloc ?_ ?_ | (apply btrans0; rotate_left; assumption) | (apply btrans; rotate_left; assumption)) | exact Below.refl _ _ | assumption | (apply btrans0; rotate_left; assumption) | (apply btrans; rotate_left; assumption) | (simp; done) | omega | (simp; omega))), .inr ⟨rfl, p, rfl, HSm.out⟩⟩
end Go.Proofs.Ythgokfceakbjlaa
