/- Layer 12's reference: Process, Put. -/
import Derived.Test.YtdnbegcebloodaaEo
set_option linter.unusedVariables false
set_option linter.unusedSimpArgs false
namespace Go.Proofs.Ytdnbegcebloodaa
open Go Go.RowKit
attribute [local go_sem] B_getElem B_size B_app B_extract B_get B_toList

theorem RBlks.lit0 (w : World) (N : Nat) (a : Addr) : RBlks w N (.slice (some a) 0 0) [] := ⟨some a, 0, rfl, Nat.le_refl _, by simp [maxLen], (fun h => by cases h), fun h => by simp at h⟩
theorem any_snoc {P : Blk → Bool} {l : List Blk} {k : Nat} {x : Blk} (hx : l[k]? = some x) : (l.take (k + 1)).any P = ((l.take k).any P || P x) := by rw [List.take_add_one, hx]; simp
theorem wit_not {known : List Int} {f : Int} {x : Blk} {q : Bool} (h : known.contains x.kind = false) (hq : hasF x.flags f = q) : wit known f x = q := by unfold wit; rw [h, hq]; simp

set_option maxRecDepth 100000 in
set_option maxHeartbeats 3000000 in
theorem rprocess_any (l : List Blk) (known : List Int) (u v : Value) (w : World) (h : RBlks w w.heap.size u l) (hk : RInts w w.heap.size v known) (hd : ∀ x ∈ l, x.data.length ≤ maxLen) :
    Calls Try.prog 21 #[u, v] w (ProPost (prS l known) w) := by
  obtain ⟨ua, uc, rfl, hu1, hu2, _, hu4⟩ := id h
  obtain ⟨va, vc, rfl, _⟩ := id hk
  have HR := Lib.hid h
  have HK := Lib.hid hk
  have HD := Lib.hid hd
  have H4 := Lib.hid hu4
  unfold maxLen at hu2
  clear h hk hd hu4
  by_cases hc : chkAll l = 0
  case neg =>
    have hp : prS l known = ([], false, 1) := by unfold prS; rw [if_pos hc]
    have hc' : (chkAll l == 0) = false := beq_eq_false_iff_ne.2 hc
    rw [hp]
    obtain ⟨E, hE⟩ : ∃ E, chkAll l = E := ⟨_, rfl⟩
    have HE := Lib.hid hE
    rw [hE] at hc'
    clear hc hp hE
    go_enter Try.func21, Try.ntmps21
    go_wp2_with fail
    refine (checkAll_any l _ _ HR.out HD.out).mono ?_
    rw [HE.out]
    rintro e w1 ⟨rfl, hb1⟩
    go_wp2
    go_ret3
    exact ⟨_, rfl, RBlks.lit0 _ _ _, (by repeat' (first | (with_reducible refine bset ?_ ?_) | (with_reducible exact Below.refl _ _) | (with_reducible assumption) | (with_reducible refine bdrewN ?_ _) | (with_reducible refine bdrew ?_) | (with_reducible refine balloc0 ?_) | (with_reducible refine balloc ?_ ?_) | (with_reducible apply btrans0; rotate_left; with_reducible assumption) | (with_reducible apply btrans; rotate_left; with_reducible assumption) | exact Below.refl _ _ | assumption | (apply btrans0; rotate_left; assumption) | (apply btrans; rotate_left; assumption) | (simp; done) | omega | (simp; omega)))⟩
  obtain ⟨hl8, _⟩ := chkAll_zero hc
  have HF := Lib.hid (chkAll_flags hc)
  have HC := Lib.hid hc
  have HP := Lib.hid (prS_ok (known := known) hc)
  obtain ⟨i0, hin, hz0, hz1, hz2⟩ := info_parts infoBlk
  clear hc
  go_enter Try.func21, Try.ntmps21
  go_wp2_with fail
  refine (checkAll_any l _ _ HR.out HD.out).mono ?_
  rw [HC.out]
  rintro e w1 ⟨rfl, hb1⟩
  have z1 : w.heap.size ≤ w1.heap.size := hb1.size
  go_wp2
  go_loopw [10, 7, 8, 9] (fun i s r d wr => ∃ (q n' : Nat) (vo : Value) (R D : Bool), s = vo ∧ r = .bool R ∧ d = .bool D ∧ q ≤ l.length ∧ i = .int .i64 q ∧ n' ≤ q ∧ wr.ownsRow w1.heap.size 29 3 vo n' (((l.take q).filter (fun x => !wit known 4 x)).flatMap blkC) ∧ Hid (R = (l.take q).any (wit known 8)) ∧ Hid (D = (l.take q).any (wit known 2)) ∧ Below w1.heap.size w1 wr) (fun i _ _ _ _ => l.length - (intOf i).toNat)
  case atStart => exact ⟨0, 0, _, false, false, rfl, rfl, rfl, Nat.zero_le _, rfl, Nat.le_refl _, World.ownsRow_made w1 #[] 0 (Nat.le_refl _) (by simp) rfl, Lib.hid (by simp), Lib.hid (by simp), balloc0 (Below.refl _ _)⟩
  case round =>
    obtain ⟨q, n', vo, R, D, e7, rfl, rfl, hk, rfl, hn, hown, HRR, HDD, hB⟩ := hrel
    have e7' := e7.symm
    clear e7
    subst e7'
    have HBw : Below w.heap.size w wr := hb1.trans (hB.mono z1)
    have zr : w1.heap.size ≤ wr.heap.size := hB.size
    by_cases hlt : q < l.length
    · obtain ⟨bb, o, rfl, hbn, hcell⟩ := H4.out (by omega)
      obtain ⟨x, hx⟩ : ∃ x, l[q]? = some x := ⟨_, List.getElem?_eq_getElem hlt⟩
      obtain ⟨c1, c2, c3⟩ := (hcell q x hx).keep (fun o => HBw.cell (p := ⟨bb, o, none⟩) hbn)
      obtain ⟨f1, f2⟩ := HF.out x (List.mem_of_getElem? hx)
      have k0 : (0 : Int) ≤ (q : Int) := by omega
      have k1 : (q : Int) < (l.length : Int) := by omega
      have HX := Lib.hid hx
      have hbr : bb < wr.heap.size := by have := HBw.size; omega
      clear hx hcell
      obtain ⟨p, hp⟩ : ∃ p, known.contains x.kind = p := ⟨_, rfl⟩
      have HP2 := Lib.hid hp
      clear hp
      go_wp2_with fail
      refine (rcontains_any known _ x.kind _ (HK.out.below HBw (Nat.le_refl _) HBw.size)).mono ?_
      rw [HP2.out]
      rintro e w2 ⟨rfl, hw2⟩
      subst hw2
      cases p
      case true =>
        have HW : Hid (∀ f, wit known f x = false) := Lib.hid (fun f => wit_known HP2.out)
        go_wp2_with (at_builtin; refine wpList_append_lies _ rfl _ _ _ rfl w1.heap.size 29 i0 _ 3 32 Try.underlying22 hin hz0 hz1 hz2 rfl (by omega) vo n' _ rfl (hown.alloc _) ⟨w2.heap.size, 0, none⟩ 1 1 (blkC x) rfl rfl (news_one (t := 29) (by exact heap_new)) (blkC_one x) (by omega) (by simp only [maxLen]; omega) (by omega) (by simp; omega) (w2.heap.size + 1) (by simp) ?_; intro g cap w9 hown9 hg9 hat9 hlt9)
        have hB9 : Below w1.heap.size w1 w9 := (balloc hB zr).grown hg9 (by simp; omega) (fun q hq => (hown.lt q hq).1)
        have HO := Lib.hid hown9
        clear hown9 hg9 hat9 hown HBw
        go_wp2
        go_roundw
        case rel => exact ⟨q + 1, n' + 1, _, R, D, rfl, rfl, rfl, by omega, by go_num, by omega, by rw [flat_snoc HX.out (by simp [HW.out 4])]; exact HO.out, Lib.hid (by rw [any_snoc HX.out, HW.out 8, ← HRR.out]; simp), Lib.hid (by rw [any_snoc HX.out, HW.out 2, ← HDD.out]; simp), hB9⟩
        case measure => simp [intOf]; omega
      obtain ⟨a8, h8⟩ : ∃ a, hasF x.flags 8 = a := ⟨_, rfl⟩
      obtain ⟨a2, h2⟩ : ∃ a, hasF x.flags 2 = a := ⟨_, rfl⟩
      obtain ⟨a4, h4⟩ : ∃ a, hasF x.flags 4 = a := ⟨_, rfl⟩
      have W8 := Lib.hid (wit_not HP2.out h8)
      have W2 := Lib.hid (wit_not HP2.out h2)
      have W4 := Lib.hid (wit_not HP2.out h4)
      have F8 := Lib.hid h8
      have F2 := Lib.hid h2
      have F4 := Lib.hid h4
      clear h8 h2 h4
      clear HBw
      cases R
      all_goals cases D
      · skip
        go_wp2_with fail
        refine (rhas_any x 8 _ f1 f2 (by decide)).mono ?_
        rw [F8.out]
        rintro e w3 ⟨rfl, hbw3⟩
        obtain ⟨kw3, _⟩ := bcell hbw3
        have zw3 : w2.heap.size ≤ w3.heap.size := hbw3.size
        replace c1 := (kw3 bb (o + q * 3) (by omega)).trans c1
        replace c2 := (kw3 bb (o + q * 3 + 1) (by omega)).trans c2
        replace c3 := (kw3 bb (o + q * 3 + 2) (by omega)).trans c3
        replace hB : Below w1.heap.size w1 w3 := hB.trans (hbw3.mono zr)
        replace hown := own_kept hown (fun q _ cs e f hq => hbw3.block q (by
          rcases Nat.lt_or_ge q w2.heap.size with h | h
          · exact h
          · rw [Array.getElem?_eq_none h] at hq; cases hq))
        replace zr : w1.heap.size ≤ w3.heap.size := by omega
        replace hbr : bb < w3.heap.size := by omega
        clear hbw3 kw3
        go_wp2_with fail
        refine (rhas_any x 2 _ f1 f2 (by decide)).mono ?_
        rw [F2.out]
        rintro e w4 ⟨rfl, hbw4⟩
        obtain ⟨kw4, _⟩ := bcell hbw4
        have zw4 : w3.heap.size ≤ w4.heap.size := hbw4.size
        replace c1 := (kw4 bb (o + q * 3) (by omega)).trans c1
        replace c2 := (kw4 bb (o + q * 3 + 1) (by omega)).trans c2
        replace c3 := (kw4 bb (o + q * 3 + 2) (by omega)).trans c3
        replace hB : Below w1.heap.size w1 w4 := hB.trans (hbw4.mono zr)
        replace hown := own_kept hown (fun q _ cs e f hq => hbw4.block q (by
          rcases Nat.lt_or_ge q w3.heap.size with h | h
          · exact h
          · rw [Array.getElem?_eq_none h] at hq; cases hq))
        replace zr : w1.heap.size ≤ w4.heap.size := by omega
        replace hbr : bb < w4.heap.size := by omega
        clear hbw4 kw4
        go_wp2_with fail
        refine (rhas_any x 4 _ f1 f2 (by decide)).mono ?_
        rw [F4.out]
        rintro e w5 ⟨rfl, hbw5⟩
        obtain ⟨kw5, _⟩ := bcell hbw5
        have zw5 : w4.heap.size ≤ w5.heap.size := hbw5.size
        replace c1 := (kw5 bb (o + q * 3) (by omega)).trans c1
        replace c2 := (kw5 bb (o + q * 3 + 1) (by omega)).trans c2
        replace c3 := (kw5 bb (o + q * 3 + 2) (by omega)).trans c3
        replace hB : Below w1.heap.size w1 w5 := hB.trans (hbw5.mono zr)
        replace hown := own_kept hown (fun q _ cs e f hq => hbw5.block q (by
          rcases Nat.lt_or_ge q w4.heap.size with h | h
          · exact h
          · rw [Array.getElem?_eq_none h] at hq; cases hq))
        replace zr : w1.heap.size ≤ w5.heap.size := by omega
        replace hbr : bb < w5.heap.size := by omega
        clear hbw5 kw5
        cases a4
        · go_wp2_with (at_builtin; refine wpList_append_lies _ rfl _ _ _ rfl w1.heap.size 29 i0 _ 3 32 Try.underlying22 hin hz0 hz1 hz2 rfl (by omega) vo n' _ rfl (hown.alloc _) ⟨w5.heap.size, 0, none⟩ 1 1 (blkC x) rfl rfl (news_one (t := 29) (by exact heap_new)) (blkC_one x) (by omega) (by simp only [maxLen]; omega) (by omega) (by simp; omega) (w5.heap.size + 1) (by simp) ?_; intro g cap w9 hown9 hg9 hat9 hlt9)
          have hB9 : Below w1.heap.size w1 w9 := (balloc hB zr).grown hg9 (by simp; omega) (fun q hq => (hown.lt q hq).1)
          have HO := Lib.hid hown9
          clear hown9 hg9 hat9 hown
          go_wp2
          go_roundw
          case rel => exact ⟨q + 1, n' + 1, _, a8, a2, rfl, rfl, rfl, by omega, by go_num, by omega, by rw [flat_snoc HX.out (by simp [W4.out])]; exact HO.out, Lib.hid (by rw [any_snoc HX.out, W8.out, ← HRR.out]; simp), Lib.hid (by rw [any_snoc HX.out, W2.out, ← HDD.out]; simp), hB9⟩
          case measure => simp [intOf]; omega
        · go_wp2
          go_roundw
          case rel => exact ⟨q + 1, n', _, a8, a2, rfl, rfl, rfl, by omega, by go_num, by omega, by rw [flat_skip HX.out (by simp [W4.out])]; exact hown, Lib.hid (by rw [any_snoc HX.out, W8.out, ← HRR.out]; simp), Lib.hid (by rw [any_snoc HX.out, W2.out, ← HDD.out]; simp), hB⟩
          case measure => simp [intOf]; omega
      · skip
        go_wp2_with fail
        refine (rhas_any x 8 _ f1 f2 (by decide)).mono ?_
        rw [F8.out]
        rintro e w3 ⟨rfl, hbw3⟩
        obtain ⟨kw3, _⟩ := bcell hbw3
        have zw3 : w2.heap.size ≤ w3.heap.size := hbw3.size
        replace c1 := (kw3 bb (o + q * 3) (by omega)).trans c1
        replace c2 := (kw3 bb (o + q * 3 + 1) (by omega)).trans c2
        replace c3 := (kw3 bb (o + q * 3 + 2) (by omega)).trans c3
        replace hB : Below w1.heap.size w1 w3 := hB.trans (hbw3.mono zr)
        replace hown := own_kept hown (fun q _ cs e f hq => hbw3.block q (by
          rcases Nat.lt_or_ge q w2.heap.size with h | h
          · exact h
          · rw [Array.getElem?_eq_none h] at hq; cases hq))
        replace zr : w1.heap.size ≤ w3.heap.size := by omega
        replace hbr : bb < w3.heap.size := by omega
        clear hbw3 kw3
        go_wp2_with fail
        refine (rhas_any x 4 _ f1 f2 (by decide)).mono ?_
        rw [F4.out]
        rintro e w5 ⟨rfl, hbw5⟩
        obtain ⟨kw5, _⟩ := bcell hbw5
        have zw5 : w3.heap.size ≤ w5.heap.size := hbw5.size
        replace c1 := (kw5 bb (o + q * 3) (by omega)).trans c1
        replace c2 := (kw5 bb (o + q * 3 + 1) (by omega)).trans c2
        replace c3 := (kw5 bb (o + q * 3 + 2) (by omega)).trans c3
        replace hB : Below w1.heap.size w1 w5 := hB.trans (hbw5.mono zr)
        replace hown := own_kept hown (fun q _ cs e f hq => hbw5.block q (by
          rcases Nat.lt_or_ge q w3.heap.size with h | h
          · exact h
          · rw [Array.getElem?_eq_none h] at hq; cases hq))
        replace zr : w1.heap.size ≤ w5.heap.size := by omega
        replace hbr : bb < w5.heap.size := by omega
        clear hbw5 kw5
        cases a4
        · go_wp2_with (at_builtin; refine wpList_append_lies _ rfl _ _ _ rfl w1.heap.size 29 i0 _ 3 32 Try.underlying22 hin hz0 hz1 hz2 rfl (by omega) vo n' _ rfl (hown.alloc _) ⟨w5.heap.size, 0, none⟩ 1 1 (blkC x) rfl rfl (news_one (t := 29) (by exact heap_new)) (blkC_one x) (by omega) (by simp only [maxLen]; omega) (by omega) (by simp; omega) (w5.heap.size + 1) (by simp) ?_; intro g cap w9 hown9 hg9 hat9 hlt9)
          have hB9 : Below w1.heap.size w1 w9 := (balloc hB zr).grown hg9 (by simp; omega) (fun q hq => (hown.lt q hq).1)
          have HO := Lib.hid hown9
          clear hown9 hg9 hat9 hown
          go_wp2
          go_roundw
          case rel => exact ⟨q + 1, n' + 1, _, a8, true, rfl, rfl, rfl, by omega, by go_num, by omega, by rw [flat_snoc HX.out (by simp [W4.out])]; exact HO.out, Lib.hid (by rw [any_snoc HX.out, W8.out, ← HRR.out]; simp), Lib.hid (by rw [any_snoc HX.out, W2.out, ← HDD.out]; simp), hB9⟩
          case measure => simp [intOf]; omega
        · go_wp2
          go_roundw
          case rel => exact ⟨q + 1, n', _, a8, true, rfl, rfl, rfl, by omega, by go_num, by omega, by rw [flat_skip HX.out (by simp [W4.out])]; exact hown, Lib.hid (by rw [any_snoc HX.out, W8.out, ← HRR.out]; simp), Lib.hid (by rw [any_snoc HX.out, W2.out, ← HDD.out]; simp), hB⟩
          case measure => simp [intOf]; omega
      · skip
        go_wp2_with fail
        refine (rhas_any x 2 _ f1 f2 (by decide)).mono ?_
        rw [F2.out]
        rintro e w4 ⟨rfl, hbw4⟩
        obtain ⟨kw4, _⟩ := bcell hbw4
        have zw4 : w2.heap.size ≤ w4.heap.size := hbw4.size
        replace c1 := (kw4 bb (o + q * 3) (by omega)).trans c1
        replace c2 := (kw4 bb (o + q * 3 + 1) (by omega)).trans c2
        replace c3 := (kw4 bb (o + q * 3 + 2) (by omega)).trans c3
        replace hB : Below w1.heap.size w1 w4 := hB.trans (hbw4.mono zr)
        replace hown := own_kept hown (fun q _ cs e f hq => hbw4.block q (by
          rcases Nat.lt_or_ge q w2.heap.size with h | h
          · exact h
          · rw [Array.getElem?_eq_none h] at hq; cases hq))
        replace zr : w1.heap.size ≤ w4.heap.size := by omega
        replace hbr : bb < w4.heap.size := by omega
        clear hbw4 kw4
        go_wp2_with fail
        refine (rhas_any x 4 _ f1 f2 (by decide)).mono ?_
        rw [F4.out]
        rintro e w5 ⟨rfl, hbw5⟩
        obtain ⟨kw5, _⟩ := bcell hbw5
        have zw5 : w4.heap.size ≤ w5.heap.size := hbw5.size
        replace c1 := (kw5 bb (o + q * 3) (by omega)).trans c1
        replace c2 := (kw5 bb (o + q * 3 + 1) (by omega)).trans c2
        replace c3 := (kw5 bb (o + q * 3 + 2) (by omega)).trans c3
        replace hB : Below w1.heap.size w1 w5 := hB.trans (hbw5.mono zr)
        replace hown := own_kept hown (fun q _ cs e f hq => hbw5.block q (by
          rcases Nat.lt_or_ge q w4.heap.size with h | h
          · exact h
          · rw [Array.getElem?_eq_none h] at hq; cases hq))
        replace zr : w1.heap.size ≤ w5.heap.size := by omega
        replace hbr : bb < w5.heap.size := by omega
        clear hbw5 kw5
        cases a4
        · go_wp2_with (at_builtin; refine wpList_append_lies _ rfl _ _ _ rfl w1.heap.size 29 i0 _ 3 32 Try.underlying22 hin hz0 hz1 hz2 rfl (by omega) vo n' _ rfl (hown.alloc _) ⟨w5.heap.size, 0, none⟩ 1 1 (blkC x) rfl rfl (news_one (t := 29) (by exact heap_new)) (blkC_one x) (by omega) (by simp only [maxLen]; omega) (by omega) (by simp; omega) (w5.heap.size + 1) (by simp) ?_; intro g cap w9 hown9 hg9 hat9 hlt9)
          have hB9 : Below w1.heap.size w1 w9 := (balloc hB zr).grown hg9 (by simp; omega) (fun q hq => (hown.lt q hq).1)
          have HO := Lib.hid hown9
          clear hown9 hg9 hat9 hown
          go_wp2
          go_roundw
          case rel => exact ⟨q + 1, n' + 1, _, true, a2, rfl, rfl, rfl, by omega, by go_num, by omega, by rw [flat_snoc HX.out (by simp [W4.out])]; exact HO.out, Lib.hid (by rw [any_snoc HX.out, W8.out, ← HRR.out]; simp), Lib.hid (by rw [any_snoc HX.out, W2.out, ← HDD.out]; simp), hB9⟩
          case measure => simp [intOf]; omega
        · go_wp2
          go_roundw
          case rel => exact ⟨q + 1, n', _, true, a2, rfl, rfl, rfl, by omega, by go_num, by omega, by rw [flat_skip HX.out (by simp [W4.out])]; exact hown, Lib.hid (by rw [any_snoc HX.out, W8.out, ← HRR.out]; simp), Lib.hid (by rw [any_snoc HX.out, W2.out, ← HDD.out]; simp), hB⟩
          case measure => simp [intOf]; omega
      · skip
        go_wp2_with fail
        refine (rhas_any x 4 _ f1 f2 (by decide)).mono ?_
        rw [F4.out]
        rintro e w5 ⟨rfl, hbw5⟩
        obtain ⟨kw5, _⟩ := bcell hbw5
        have zw5 : w2.heap.size ≤ w5.heap.size := hbw5.size
        replace c1 := (kw5 bb (o + q * 3) (by omega)).trans c1
        replace c2 := (kw5 bb (o + q * 3 + 1) (by omega)).trans c2
        replace c3 := (kw5 bb (o + q * 3 + 2) (by omega)).trans c3
        replace hB : Below w1.heap.size w1 w5 := hB.trans (hbw5.mono zr)
        replace hown := own_kept hown (fun q _ cs e f hq => hbw5.block q (by
          rcases Nat.lt_or_ge q w2.heap.size with h | h
          · exact h
          · rw [Array.getElem?_eq_none h] at hq; cases hq))
        replace zr : w1.heap.size ≤ w5.heap.size := by omega
        replace hbr : bb < w5.heap.size := by omega
        clear hbw5 kw5
        cases a4
        · go_wp2_with (at_builtin; refine wpList_append_lies _ rfl _ _ _ rfl w1.heap.size 29 i0 _ 3 32 Try.underlying22 hin hz0 hz1 hz2 rfl (by omega) vo n' _ rfl (hown.alloc _) ⟨w5.heap.size, 0, none⟩ 1 1 (blkC x) rfl rfl (news_one (t := 29) (by exact heap_new)) (blkC_one x) (by omega) (by simp only [maxLen]; omega) (by omega) (by simp; omega) (w5.heap.size + 1) (by simp) ?_; intro g cap w9 hown9 hg9 hat9 hlt9)
          have hB9 : Below w1.heap.size w1 w9 := (balloc hB zr).grown hg9 (by simp; omega) (fun q hq => (hown.lt q hq).1)
          have HO := Lib.hid hown9
          clear hown9 hg9 hat9 hown
          go_wp2
          go_roundw
          case rel => exact ⟨q + 1, n' + 1, _, true, true, rfl, rfl, rfl, by omega, by go_num, by omega, by rw [flat_snoc HX.out (by simp [W4.out])]; exact HO.out, Lib.hid (by rw [any_snoc HX.out, W8.out, ← HRR.out]; simp), Lib.hid (by rw [any_snoc HX.out, W2.out, ← HDD.out]; simp), hB9⟩
          case measure => simp [intOf]; omega
        · go_wp2
          go_roundw
          case rel => exact ⟨q + 1, n', _, true, true, rfl, rfl, rfl, by omega, by go_num, by omega, by rw [flat_skip HX.out (by simp [W4.out])]; exact hown, Lib.hid (by rw [any_snoc HX.out, W8.out, ← HRR.out]; simp), Lib.hid (by rw [any_snoc HX.out, W2.out, ← HDD.out]; simp), hB⟩
          case measure => simp [intOf]; omega
    · obtain rfl : q = l.length := by omega
      rw [List.take_length] at hown
      have hR := HRR.out
      have hD := HDD.out
      rw [List.take_length] at hR hD
      have hn' : n' = (l.filter (fun x => !wit known 4 x)).length := by have := hown.1; rw [flat_len blkC 3 blkC_len] at this; omega
      subst hn'
      have HPP := Lib.hid HP.out
      rw [← hR, ← hD] at HPP
      have HO := Lib.hid (RBlks.of_own hown)
      clear hown hR hD HP HRR HDD hB
      cases D
      · go_wp2
        go_ret3
        exact ⟨_, by rw [HPP.out]; rfl, by rw [HPP.out]; exact HO.out, HBw⟩
      · go_wp2
        go_ret3
        exact ⟨_, by rw [HPP.out]; rfl, by rw [HPP.out]; exact RBlks.lit0 _ _ _, (by repeat' (first | (with_reducible refine bset ?_ ?_) | (with_reducible exact Below.refl _ _) | (with_reducible assumption) | (with_reducible refine bdrewN ?_ _) | (with_reducible refine bdrew ?_) | (with_reducible refine balloc0 ?_) | (with_reducible refine balloc ?_ ?_) | (with_reducible apply btrans0; rotate_left; with_reducible assumption) | (with_reducible apply btrans; rotate_left; with_reducible assumption) | exact Below.refl _ _ | assumption | (apply btrans0; rotate_left; assumption) | (apply btrans; rotate_left; assumption) | (simp; done) | omega | (simp; omega)))⟩

theorem lt_ne (k : Int) (l : List Blk) : ltK k (neK k l) = ltK k l := by
  unfold ltK neK
  rw [List.filter_filter]
  refine List.filter_congr fun x _ => ?_
  by_cases h : x.kind < k
  · have : ¬ x.kind = k := by omega
    simp [h, this]
  · simp [h]
theorem gt_ne (k : Int) (l : List Blk) : gtK k (neK k l) = gtK k l := by
  unfold gtK neK
  rw [List.filter_filter]
  refine List.filter_congr fun x _ => ?_
  by_cases h : k < x.kind
  · have : ¬ x.kind = k := by omega
    simp [h, this]
  · simp [h]
theorem put_len {l : List Blk} {b : Blk} (h : Srt l) : (putL l b).length = (neK b.kind l).length + 1 := by
  rw [neK_eq h, putL_eq]; simp; omega
def RPutPost (r : List Blk × Int) (w : World) (e : Ending) (w' : World) : Prop := ∃ v, e = .returned (.tuple #[v, .int .i64 r.2]) ∧ RBlks w' w'.heap.size v r.1 ∧ Below w.heap.size w w'
set_option maxRecDepth 100000 in
set_option maxHeartbeats 3000000 in
theorem rput_any (l : List Blk) (u : Value) (b : Blk) (w : World) (h : RBlks w w.heap.size u l) (hd : ∀ x ∈ l, x.data.length ≤ maxLen) (hb : b.data.length ≤ maxLen) :
    Calls Try.prog 20 #[u, .agg #[.int .i64 b.kind, .int .i64 b.flags, .string (B b.data)]] w (RPutPost (putS l b) w) := by
  obtain ⟨ua, uc, rfl, _⟩ := id h
  have HR := Lib.hid h
  have HD := Lib.hid hd
  unfold maxLen at hb
  clear h hd
  by_cases hc : chkAll l = 0
  case neg =>
    have hp : putS l b = ([], 1) := by unfold putS; rw [if_pos hc]
    have hc' : (chkAll l == 0) = false := beq_eq_false_iff_ne.2 hc
    rw [hp]
    obtain ⟨E, hE⟩ : ∃ E, chkAll l = E := ⟨_, rfl⟩
    have HE := Lib.hid hE
    rw [hE] at hc'
    clear hc hp hE
    go_enter Try.func20, Try.ntmps20
    go_wp2_with fail
    refine (checkAll_any l _ _ (HR.out.below (C := w.heap.size) (by repeat' (first | (with_reducible refine bset ?_ ?_) | (with_reducible exact Below.refl _ _) | (with_reducible assumption) | (with_reducible refine bdrewN ?_ _) | (with_reducible refine bdrew ?_) | (with_reducible refine balloc0 ?_) | (with_reducible refine balloc ?_ ?_) | (with_reducible apply btrans0; rotate_left; with_reducible assumption) | (with_reducible apply btrans; rotate_left; with_reducible assumption) | exact Below.refl _ _ | assumption | (apply btrans0; rotate_left; assumption) | (apply btrans; rotate_left; assumption) | (simp; done) | omega | (simp; omega))) (Nat.le_refl _) (by simp)) HD.out).mono ?_
    rw [HE.out]
    rintro e w1 ⟨rfl, hb1⟩
    go_wp2
    go_ret2
    exact ⟨_, rfl, RBlks.lit0 _ _ _, (by repeat' (first | (with_reducible refine bset ?_ ?_) | (with_reducible exact Below.refl _ _) | (with_reducible assumption) | (with_reducible refine bdrewN ?_ _) | (with_reducible refine bdrew ?_) | (with_reducible refine balloc0 ?_) | (with_reducible refine balloc ?_ ?_) | (with_reducible apply btrans0; rotate_left; with_reducible assumption) | (with_reducible apply btrans; rotate_left; with_reducible assumption) | exact Below.refl _ _ | assumption | (apply btrans0; rotate_left; assumption) | (apply btrans; rotate_left; assumption) | (simp; done) | omega | (simp; omega)))⟩
  obtain ⟨hl8, _⟩ := chkAll_zero hc
  have HC := Lib.hid hc
  obtain ⟨_, _, hs⟩ := chkAll_iff.1 hc
  have HS := Lib.hid hs
  clear hc hs
  by_cases hE : blkE b = 0
  case neg =>
    have hp : putS l b = ([], blkE b) := by unfold putS; rw [if_neg (by simp [HC.out]), if_pos hE]
    have hE2 : (blkE b == 0) = false := beq_eq_false_iff_ne.2 hE
    rw [hp]
    obtain ⟨E, hEE⟩ : ∃ E, blkE b = E := ⟨_, rfl⟩
    have HEE := Lib.hid hEE
    rw [hEE] at hE2 ⊢
    clear hp hE hEE
    go_enter Try.func20, Try.ntmps20
    go_wp2_with fail
    refine (checkAll_any l _ _ (HR.out.below (C := w.heap.size) (by repeat' (first | (with_reducible refine bset ?_ ?_) | (with_reducible exact Below.refl _ _) | (with_reducible assumption) | (with_reducible refine bdrewN ?_ _) | (with_reducible refine bdrew ?_) | (with_reducible refine balloc0 ?_) | (with_reducible refine balloc ?_ ?_) | (with_reducible apply btrans0; rotate_left; with_reducible assumption) | (with_reducible apply btrans; rotate_left; with_reducible assumption) | exact Below.refl _ _ | assumption | (apply btrans0; rotate_left; assumption) | (apply btrans; rotate_left; assumption) | (simp; done) | omega | (simp; omega))) (Nat.le_refl _) (by simp)) HD.out).mono ?_
    rw [HC.out]
    rintro e w1 ⟨rfl, hb1⟩
    obtain ⟨k1, f1⟩ := bcell hb1
    have z1 : w.heap.size < w1.heap.size := by have := hb1.size; simp at this; omega
    go_wp2_with fail
    refine (rbcheck_any b _ hb).mono ?_
    rw [HEE.out]
    rintro e w2 ⟨rfl, hb2⟩
    go_wp2
    go_ret2
    exact ⟨_, rfl, RBlks.lit0 _ _ _, (by repeat' (first | (with_reducible refine bset ?_ ?_) | (with_reducible exact Below.refl _ _) | (with_reducible assumption) | (with_reducible refine bdrewN ?_ _) | (with_reducible refine bdrew ?_) | (with_reducible refine balloc0 ?_) | (with_reducible refine balloc ?_ ?_) | (with_reducible apply btrans0; rotate_left; with_reducible assumption) | (with_reducible apply btrans; rotate_left; with_reducible assumption) | exact Below.refl _ _ | assumption | (apply btrans0; rotate_left; assumption) | (apply btrans; rotate_left; assumption) | (simp; done) | omega | (simp; omega)))⟩
  have HE := Lib.hid hE
  obtain ⟨i0, hin, hz0, hz1, hz2⟩ := info_parts infoBlk
  clear hE
  go_enter Try.func20, Try.ntmps20
  go_wp2_with fail
  refine (checkAll_any l _ _ (HR.out.below (C := w.heap.size) (by repeat' (first | (with_reducible refine bset ?_ ?_) | (with_reducible exact Below.refl _ _) | (with_reducible assumption) | (with_reducible refine bdrewN ?_ _) | (with_reducible refine bdrew ?_) | (with_reducible refine balloc0 ?_) | (with_reducible refine balloc ?_ ?_) | (with_reducible apply btrans0; rotate_left; with_reducible assumption) | (with_reducible apply btrans; rotate_left; with_reducible assumption) | exact Below.refl _ _ | assumption | (apply btrans0; rotate_left; assumption) | (apply btrans; rotate_left; assumption) | (simp; done) | omega | (simp; omega))) (Nat.le_refl _) (by simp)) HD.out).mono ?_
  rw [HC.out]
  rintro e w1 ⟨rfl, hb1⟩
  have z1 : w.heap.size < w1.heap.size := by have := hb1.size; simp at this; omega
  have hB1 : Below w.heap.size w w1 := (by repeat' (first | (with_reducible refine bset ?_ ?_) | (with_reducible exact Below.refl _ _) | (with_reducible assumption) | (with_reducible refine bdrewN ?_ _) | (with_reducible refine bdrew ?_) | (with_reducible refine balloc0 ?_) | (with_reducible refine balloc ?_ ?_) | (with_reducible apply btrans0; rotate_left; with_reducible assumption) | (with_reducible apply btrans; rotate_left; with_reducible assumption) | exact Below.refl _ _ | assumption | (apply btrans0; rotate_left; assumption) | (apply btrans; rotate_left; assumption) | (simp; done) | omega | (simp; omega)))
  have K1 : w1.heap[w.heap.size]? = some (.cells #[.int .i64 b.kind, .int .i64 b.flags, .string (B b.data)] 29 (0, 0)) := (hb1.block _ (by simp)).trans heap_new
  have ca := fun o => cellB K1 o
  clear hb1
  go_wp2_with fail
  refine (rbcheck_any b _ hb).mono ?_
  rw [HE.out]
  rintro e w2 ⟨rfl, hb2⟩
  have z2 : w1.heap.size ≤ w2.heap.size := hb2.size
  have z2' : w.heap.size < w2.heap.size := by omega
  have hB2 : Below w.heap.size w w2 := (by repeat' (first | (with_reducible refine bset ?_ ?_) | (with_reducible exact Below.refl _ _) | (with_reducible assumption) | (with_reducible refine bdrewN ?_ _) | (with_reducible refine bdrew ?_) | (with_reducible refine balloc0 ?_) | (with_reducible refine balloc ?_ ?_) | (with_reducible apply btrans0; rotate_left; with_reducible assumption) | (with_reducible apply btrans; rotate_left; with_reducible assumption) | exact Below.refl _ _ | assumption | (apply btrans0; rotate_left; assumption) | (apply btrans; rotate_left; assumption) | (simp; done) | omega | (simp; omega)))
  have K2 := (hb2.block w.heap.size z1).trans K1
  clear hb2 ca K1 hB1
  have ca := fun o => cellB K2 o
  go_wp2_with fail
  refine (rremove_any l _ b.kind _ (HR.out.below hB2 (Nat.le_refl _) hB2.size) (by omega)).mono ?_
  obtain ⟨rs, hrs⟩ : ∃ rs, l.filter (fun x => x.kind != b.kind) = rs := ⟨_, rfl⟩
  have hrl : rs.length ≤ 8 := by rw [← hrs]; exact Nat.le_trans (List.length_filter_le _ _) hl8
  rw [hrs]
  have HRS : Hid (neK b.kind l = rs) := Lib.hid hrs
  clear hrs
  rintro e w3 ⟨v3, rfl, hr3, hb3, _⟩
  have z3 : w2.heap.size ≤ w3.heap.size := hb3.size
  have z3' : w.heap.size < w3.heap.size := by omega
  have hB3 : Below w.heap.size w w3 := hB2.trans (hb3.mono (by omega))
  have K3 := (hb3.block w.heap.size z2').trans K2
  clear hb3 ca K2 hB2
  obtain ⟨ra, rc, rfl, hrc, hrm, _, hcell3⟩ := id hr3
  have HC3 := Lib.hid hcell3
  clear hr3 hcell3
  by_cases h8 : rs.length = 8
  · have h8' : ((rs.length : Int) == 8) = true := beq_iff_eq.2 (by omega)
    have hp : putS l b = ([], 4) := by unfold putS; rw [if_neg (by simp [HC.out]), if_neg (by simp [HE.out]), if_pos (by rw [put_len HS.out, HRS.out]; omega)]
    have HP := Lib.hid hp
    have h8n : (rs.length == 8) = true := beq_iff_eq.2 h8
    have h8d : decide (rs.length = 8) = true := decide_eq_true h8
    clear hp h8
    go_wp2
    go_ret2
    exact ⟨_, by rw [HP.out]; rfl, by rw [HP.out]; exact RBlks.lit0 _ _ _, (by repeat' (first | (with_reducible refine bset ?_ ?_) | (with_reducible exact Below.refl _ _) | (with_reducible assumption) | (with_reducible refine bdrewN ?_ _) | (with_reducible refine bdrew ?_) | (with_reducible refine balloc0 ?_) | (with_reducible refine balloc ?_ ?_) | (with_reducible apply btrans0; rotate_left; with_reducible assumption) | (with_reducible apply btrans; rotate_left; with_reducible assumption) | exact Below.refl _ _ | assumption | (apply btrans0; rotate_left; assumption) | (apply btrans; rotate_left; assumption) | (simp; done) | omega | (simp; omega)))⟩
  have h8' : ((rs.length : Int) == 8) = false := beq_eq_false_iff_ne.2 (by omega)
  have hp : putS l b = (putL l b, 0) := by unfold putS; rw [if_neg (by simp [HC.out]), if_neg (by simp [HE.out]), if_neg (by rw [put_len HS.out, HRS.out]; omega)]
  have HP := Lib.hid hp
  have h8n : (rs.length == 8) = false := beq_eq_false_iff_ne.2 h8
  have h8d : decide (rs.length = 8) = false := decide_eq_false h8
  clear hp h8
  go_wp2
  go_loopw [9, 8] (fun i s wr => ∃ (q n' : Nat) (vo : Value), s = vo ∧ q ≤ rs.length ∧ i = .int .i64 q ∧ n' ≤ q ∧ wr.ownsRow w3.heap.size 29 3 vo (n') (((rs.take q).filter (fun x => decide (x.kind < b.kind))).flatMap blkC) ∧ Below w3.heap.size w3 wr) (fun i _ _ => rs.length - (intOf i).toNat)
  case atStart => exact ⟨0, 0, _, rfl, Nat.zero_le _, rfl, Nat.le_refl _, World.ownsRow_made w3 #[] 0 (Nat.le_refl _) (by simp) rfl, balloc0 (Below.refl _ _)⟩
  case round =>
    obtain ⟨q, n', vo, e7, hk, rfl, hn, hown, hB⟩ := hrel
    have e7' := e7.symm
    clear e7
    subst e7'
    have HBw : Below w.heap.size w wr := hB3.trans (hB.mono (by omega))
    have zr : w3.heap.size ≤ wr.heap.size := hB.size
    have KR := (hB.block w.heap.size z3').trans K3
    have zw : w.heap.size < wr.heap.size := by omega
    by_cases hlt : q < rs.length
    · obtain ⟨bb, o, rfl, hbn, hcell⟩ := HC3.out (by omega)
      obtain ⟨x, hx⟩ : ∃ x, rs[q]? = some x := ⟨_, List.getElem?_eq_getElem hlt⟩
      obtain ⟨c1, c2, c3⟩ := (hcell q x hx).keep (fun o => hB.cell (p := ⟨bb, o, none⟩) hbn)
      have cb : wr.cell? ⟨w.heap.size, 0, none⟩ = some (.int .i64 b.kind) := cellB KR 0
      have hbr : bb < wr.heap.size := by omega
      have k0 : (0 : Int) ≤ (q : Int) := by omega
      have k1 : (q : Int) < (rs.length : Int) := by omega
      have HX := Lib.hid hx
      clear hx hcell KR
      by_cases ht : x.kind < b.kind
      · have ht2 : decide (x.kind < b.kind) = true := decide_eq_true ht
        have HQ : Hid ((fun x => decide (x.kind < b.kind)) x = true) := Lib.hid (by simpa using ht)
        clear ht
        go_wp2
        refine wp_region_plan (fun V => V.cell? ⟨bb, o + q * 3, none⟩ = some (.int .i64 x.kind) ∧ V.cell? ⟨w.heap.size, 0, none⟩ = some (.int .i64 b.kind)) [0, 0, 0, 0, 1, 0, 1, 0] [0, 1, 2, 3, 4, 5, 6, 7] (by kernel_rfl) (by kernel_rfl) ?_ ?_
        case refine_1 => exact ⟨c1, cb⟩
        (iterate 8 (refine plan_held rfl (by decide) (by rfl) (fun w1 hS => by (try (have hS := hS rfl; obtain hS := hS; repeat (obtain ⟨_, hS⟩ := hS))); go_simp; rfl) ?_; simp only [Act.put, List.setIfInBounds_toArray, List.set_cons_zero, List.set_cons_succ]))
        refine plan_done ?_
        go_wp2_with (at_builtin; refine wpList_append_lies _ rfl _ _ _ rfl w3.heap.size 29 i0 _ 3 32 Try.underlying22 hin hz0 hz1 hz2 rfl (by omega) vo (n') _ rfl (show ((wr.alloc (.cells (blkC x).toArray 29)).drew).ownsRow _ _ _ _ _ _ from hown.alloc _) ⟨wr.heap.size, 0, none⟩ 1 1 (blkC x) rfl rfl (news_one (t := 29) (by exact heap_alloc_new wr _)) (blkC_one x) (by omega) (by simp only [maxLen]; omega) (by omega) (by simp; omega) (wr.heap.size + 1) (by simp) ?_; intro g cap w9 hown9 hg9 hat9 hlt9)
        have hB9 : Below w3.heap.size w3 w9 := (show Below w3.heap.size w3 ((wr.alloc (.cells (blkC x).toArray 29)).drew) from bdrew (balloc hB zr)).grown hg9 (by simp; omega) (fun q hq => (hown.lt q hq).1)
        have HO := Lib.hid hown9
        clear hown9 hg9 hat9 hown HBw
        go_wp2
        go_roundw
        case rel => exact ⟨q + 1, n' + 1, _, rfl, by omega, by go_num, by omega, by have h := HO.out; rw [flat_snoc HX.out HQ.out]; first | exact h | (rw [← List.append_assoc]; exact h), hB9⟩
        case measure => simp [intOf]; omega
      · have ht2 : decide (x.kind < b.kind) = false := decide_eq_false ht
        have HQ : Hid ((fun x => decide (x.kind < b.kind)) x = false) := Lib.hid (by simpa using ht)
        clear ht
        go_wp2
        refine wp_region_plan (fun V => V.cell? ⟨bb, o + q * 3, none⟩ = some (.int .i64 x.kind) ∧ V.cell? ⟨w.heap.size, 0, none⟩ = some (.int .i64 b.kind)) [0, 0, 0, 0, 1, 0, 1, 0] [0, 1, 2, 3, 4, 5, 6, 7] (by kernel_rfl) (by kernel_rfl) ?_ ?_
        case refine_1 => exact ⟨c1, cb⟩
        (iterate 8 (refine plan_held rfl (by decide) (by rfl) (fun w1 hS => by (try (have hS := hS rfl; obtain hS := hS; repeat (obtain ⟨_, hS⟩ := hS))); go_simp; rfl) ?_; simp only [Act.put, List.setIfInBounds_toArray, List.set_cons_zero, List.set_cons_succ]))
        refine plan_done ?_
        go_wp2
        go_roundw
        case rel => exact ⟨q + 1, n', _, rfl, by omega, by go_num, by omega, by rw [flat_skip HX.out HQ.out]; exact hown, bdrew hB⟩
        case measure => simp [intOf]; omega
    · obtain rfl : q = rs.length := by omega
      rw [List.take_length] at hown
      have hn' : n' = (rs.filter (fun x => decide (x.kind < b.kind))).length := by have := hown.1; rw [flat_len blkC 3 blkC_len] at this; omega
      subst hn'
      have hN1 : (rs.filter (fun x => decide (x.kind < b.kind))).length ≤ rs.length := List.length_filter_le _ _
      have cb := fun o => cellB KR o
      go_wp2_with (at_builtin; refine wpList_append_lies _ rfl _ _ _ rfl w3.heap.size 29 i0 _ 3 32 Try.underlying22 hin hz0 hz1 hz2 rfl (by omega) vo (rs.filter (fun x => decide (x.kind < b.kind))).length _ rfl (hown.alloc _) ⟨wr.heap.size, 0, none⟩ 1 1 (blkC b) rfl rfl (news_one (t := 29) (by exact heap_new)) (blkC_one b) (by omega) (by simp only [maxLen]; omega) (by omega) (by simp; omega) (wr.heap.size + 1) (by simp) ?_; intro g cap w5 hown5 hg5 hat5 hlt5)
      have hB5 : Below w3.heap.size w3 w5 := (balloc hB zr).grown hg5 (by simp; omega) (fun q hq => (hown.lt q hq).1)
      have HO1 := Lib.hid hown5
      clear hown5 hg5 hat5 hown HBw KR hB cb
      go_wp2
      go_loopw [10, 8] (fun i s wr => ∃ (q n' : Nat) (vo : Value), s = vo ∧ q ≤ rs.length ∧ i = .int .i64 q ∧ n' ≤ q ∧ wr.ownsRow w3.heap.size 29 3 vo ((rs.filter (fun x => decide (x.kind < b.kind))).length + 1 + n') (((rs.filter (fun x => decide (x.kind < b.kind))).flatMap blkC ++ blkC b) ++ ((rs.take q).filter (fun x => decide (b.kind < x.kind))).flatMap blkC) ∧ Below w3.heap.size w3 wr) (fun i _ _ => rs.length - (intOf i).toNat)
      case atStart => exact ⟨0, 0, _, rfl, Nat.zero_le _, rfl, Nat.le_refl _, by simpa using HO1.out, hB5⟩
      case round =>
        obtain ⟨q, n', vo, e7, hk, rfl, hn, hown, hB⟩ := hrel
        have e7' := e7.symm
        clear e7
        subst e7'
        have HBw : Below w.heap.size w wr := hB3.trans (hB.mono (by omega))
        have zr : w3.heap.size ≤ wr.heap.size := hB.size
        have KR := (hB.block w.heap.size z3').trans K3
        have zw : w.heap.size < wr.heap.size := by omega
        by_cases hlt : q < rs.length
        · obtain ⟨bb, o, rfl, hbn, hcell⟩ := HC3.out (by omega)
          obtain ⟨x, hx⟩ : ∃ x, rs[q]? = some x := ⟨_, List.getElem?_eq_getElem hlt⟩
          obtain ⟨c1, c2, c3⟩ := (hcell q x hx).keep (fun o => hB.cell (p := ⟨bb, o, none⟩) hbn)
          have cb : wr.cell? ⟨w.heap.size, 0, none⟩ = some (.int .i64 b.kind) := cellB KR 0
          have hbr : bb < wr.heap.size := by omega
          have k0 : (0 : Int) ≤ (q : Int) := by omega
          have k1 : (q : Int) < (rs.length : Int) := by omega
          have HX := Lib.hid hx
          clear hx hcell KR
          by_cases ht : b.kind < x.kind
          · have ht2 : decide (b.kind < x.kind) = true := decide_eq_true ht
            have HQ : Hid ((fun x => decide (b.kind < x.kind)) x = true) := Lib.hid (by simpa using ht)
            clear ht
            go_wp2
            refine wp_region_plan (fun V => V.cell? ⟨bb, o + q * 3, none⟩ = some (.int .i64 x.kind) ∧ V.cell? ⟨w.heap.size, 0, none⟩ = some (.int .i64 b.kind)) [0, 0, 0, 0, 1, 0, 1, 0] [0, 1, 2, 3, 4, 5, 6, 7] (by kernel_rfl) (by kernel_rfl) ?_ ?_
            case refine_1 => exact ⟨c1, cb⟩
            (iterate 8 (refine plan_held rfl (by decide) (by rfl) (fun w1 hS => by (try (have hS := hS rfl; obtain hS := hS; repeat (obtain ⟨_, hS⟩ := hS))); go_simp; rfl) ?_; simp only [Act.put, List.setIfInBounds_toArray, List.set_cons_zero, List.set_cons_succ]))
            refine plan_done ?_
            go_wp2_with (at_builtin; refine wpList_append_lies _ rfl _ _ _ rfl w3.heap.size 29 i0 _ 3 32 Try.underlying22 hin hz0 hz1 hz2 rfl (by omega) vo ((rs.filter (fun x => decide (x.kind < b.kind))).length + 1 + n') _ rfl (show ((wr.alloc (.cells (blkC x).toArray 29)).drew).ownsRow _ _ _ _ _ _ from hown.alloc _) ⟨wr.heap.size, 0, none⟩ 1 1 (blkC x) rfl rfl (news_one (t := 29) (by exact heap_alloc_new wr _)) (blkC_one x) (by omega) (by simp only [maxLen]; omega) (by omega) (by simp; omega) (wr.heap.size + 1) (by simp) ?_; intro g cap w9 hown9 hg9 hat9 hlt9)
            have hB9 : Below w3.heap.size w3 w9 := (show Below w3.heap.size w3 ((wr.alloc (.cells (blkC x).toArray 29)).drew) from bdrew (balloc hB zr)).grown hg9 (by simp; omega) (fun q hq => (hown.lt q hq).1)
            have HO := Lib.hid hown9
            clear hown9 hg9 hat9 hown HBw
            go_wp2
            go_roundw
            case rel => exact ⟨q + 1, n' + 1, _, rfl, by omega, by go_num, by omega, by have h := HO.out; rw [flat_snoc HX.out HQ.out]; first | exact h | (rw [← List.append_assoc]; exact h), hB9⟩
            case measure => simp [intOf]; omega
          · have ht2 : decide (b.kind < x.kind) = false := decide_eq_false ht
            have HQ : Hid ((fun x => decide (b.kind < x.kind)) x = false) := Lib.hid (by simpa using ht)
            clear ht
            go_wp2
            refine wp_region_plan (fun V => V.cell? ⟨bb, o + q * 3, none⟩ = some (.int .i64 x.kind) ∧ V.cell? ⟨w.heap.size, 0, none⟩ = some (.int .i64 b.kind)) [0, 0, 0, 0, 1, 0, 1, 0] [0, 1, 2, 3, 4, 5, 6, 7] (by kernel_rfl) (by kernel_rfl) ?_ ?_
            case refine_1 => exact ⟨c1, cb⟩
            (iterate 8 (refine plan_held rfl (by decide) (by rfl) (fun w1 hS => by (try (have hS := hS rfl; obtain hS := hS; repeat (obtain ⟨_, hS⟩ := hS))); go_simp; rfl) ?_; simp only [Act.put, List.setIfInBounds_toArray, List.set_cons_zero, List.set_cons_succ]))
            refine plan_done ?_
            go_wp2
            go_roundw
            case rel => exact ⟨q + 1, n', _, rfl, by omega, by go_num, by omega, by rw [flat_skip HX.out HQ.out]; exact hown, bdrew hB⟩
            case measure => simp [intOf]; omega
        · obtain rfl : q = rs.length := by omega
          rw [List.take_length] at hown
          have hn' : n' = (rs.filter (fun x => decide (b.kind < x.kind))).length := by have := hown.1; simp only [List.length_append, flat_len blkC 3 blkC_len, blkC_len] at this; omega
          subst hn'
          have hL : (rs.filter (fun x => decide (x.kind < b.kind))).flatMap blkC ++ blkC b ++ (rs.filter (fun x => decide (b.kind < x.kind))).flatMap blkC = (putL l b).flatMap blkC := by
            have e1 : rs.filter (fun x => decide (x.kind < b.kind)) = ltK b.kind l := by rw [← HRS.out]; exact lt_ne _ _
            have e2 : rs.filter (fun x => decide (b.kind < x.kind)) = gtK b.kind l := by rw [← HRS.out]; exact gt_ne _ _
            rw [e1, e2, putL_eq]
            simp [List.flatMap_append]
          rw [hL] at hown
          have H7 := Lib.hid (RBlks.of_own hown)
          clear hown hL
          go_wp2
          go_ret2
          exact ⟨_, by rw [HP.out]; rfl, by rw [HP.out]; exact H7.out, HBw⟩
end Go.Proofs.Ytdnbegcebloodaa
