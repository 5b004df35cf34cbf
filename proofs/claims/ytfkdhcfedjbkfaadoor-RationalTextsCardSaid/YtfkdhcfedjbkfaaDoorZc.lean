/- Layer 4 (rational): Parse, of the program. -/
import Derived.Test.YtfkdhcfedjbkfaaDoorZb
import Derived.WalkMore
set_option linter.unusedVariables false
set_option linter.unusedSimpArgs false
namespace Go.Proofs.YtfkdhcfedjbkfaaDoor
open Go Go.RowKit
attribute [local go_sem] B_getElem B_size B_app B_extract B_get B_toList

theorem newS_bd {n d p q c : Int} (h : newS n d = ((p, q), c)) : -1099511627776 ≤ p ∧ p ≤ 1099511627776 ∧ 0 ≤ q ∧ q ≤ 1048576 := by
  unfold newS at h
  split at h
  · simp only [Prod.mk.injEq] at h; omega
  · unfold lowS at h
    split at h
    · simp only [Prod.mk.injEq] at h; omega
    · simp only [Prod.mk.injEq] at h
      obtain ⟨⟨h1, h2⟩, -⟩ := h
      rename_i k
      generalize n.natAbs / n.natAbs.gcd d.natAbs = X at *
      generalize d.natAbs / n.natAbs.gcd d.natAbs = Y at *
      split at h1 <;> omega
theorem cutM_len (s : List UInt8) : (cutM s).1.length ≤ s.length := by
  unfold cutM Lib.trimPrefix
  simp only
  split
  · rw [List.length_drop]; omega
  · exact Nat.le_refl _
theorem cut_any (s : List UInt8) (w : World) :
    Calls Tryd.prog 18 #[.string (B s), .string ⟨#[45]⟩] w fun e w' => e = .returned (.tuple #[.string (B (cutM s).1), .bool (cutM s).2]) ∧ w' = w := Tryd.strings_CutPrefix (B s) ⟨#[45]⟩ w
def ParPost (s : List UInt8) (w : World) (e : Ending) (w' : World) : Prop := ∃ p q E : Int, e = .returned (.tuple #[.agg #[.int .i64 p, .int .i64 q], .int .i64 E]) ∧ ParRes s (p, q) E ∧ Below w.heap.size w w'
set_option maxRecDepth 100000 in
set_option maxHeartbeats 8000000 in
theorem parse_any (s : List UInt8) (w : World) (hs : s.length ≤ 9223372036854775807) (hT : Tabs w) :
    Calls Tryd.prog 8 #[.string (B s)] w (ParPost s w) := by
  by_cases l1 : 30 < s.length
  · have HE : Hid (∀ n d : Int, chk (n, d) = 0 → txt n d ≠ s) := Lib.hid (fun n d h ht => by have := txt_len h; rw [ht] at this; omega)
    have l2 : 30 < (s.length : Int) := by omega
    clear l1
    go_enter Tryd.func8, Tryd.ntmps8
    go_wp2
    go_step3
    go_wp2
    (try rw [Exit.noGoto_ret])
    refine bodyPost_ret (v := .tuple #[.agg #[.int .i64 0, .int .i64 0], .int .i64 3]) (by simp [results, Tryd.results8, go_sem]) rfl ?_
    unfold ParPost
    exact ⟨0, 0, 3, rfl, .inr ⟨rfl, rfl, HE.out⟩, (by repeat' (first | (with_reducible refine bset ?_ ?_) | (with_reducible exact Below.refl _ _) | (with_reducible assumption) | (with_reducible refine bdrewN ?_ _) | (with_reducible refine bdrew ?_) | (with_reducible refine balloc0 ?_) | (with_reducible refine balloc ?_ ?_) | (with_reducible apply btrans0; rotate_left; with_reducible assumption) | (with_reducible apply btrans; rotate_left; with_reducible assumption) | exact Below.refl _ _ | assumption | (apply btrans0; rotate_left; assumption) | (apply btrans; rotate_left; assumption) | (simp; done) | omega | (simp; omega)))⟩
  have l2 : ¬ 30 < (s.length : Int) := by omega
  have l3 : s.length ≤ 30 := by omega
  clear l1
  obtain ⟨⟨T, neg⟩, hc⟩ : ∃ q, cutM s = q := ⟨_, rfl⟩
  have lt := cutM_len s
  rw [hc] at lt
  have lt2 : T.length ≤ 30 := by simp only at lt; omega
  have HC := Lib.hid hc
  clear hc lt
  go_enter Tryd.func8, Tryd.ntmps8
  go_wp2
  go_step3
  go_wp2_with fail
  refine (cut_any s _).mono ?_
  rw [HC.out]
  rintro e w1 ⟨rfl, rfl⟩
  go_wp2
  go_step3
  go_wp2
  go_loopw [7, 8, 9] (fun t dg i wr => ∃ (k : Nat) (x : PSt) (ti di : Int), k ≤ T.length ∧ i = .int .i64 k ∧ t = .int .i64 ti ∧ ti = x.t ∧ dg = .int .i64 di ∧ di = x.dg ∧ Hid (scan st0 (T.take k) = some x) ∧ Hid (okSt x) ∧ wr = (w.alloc (.cells #[.int .i64 0, .int .i64 0] 23)).alloc (.cells #[.int .i64 (x.p0 : Int), .int .i64 (x.p1 : Int)] 38)) (fun _ _ i _ => T.length - (intOf i).toNat)
  case atStart => exact ⟨0, st0, 0, 0, Nat.zero_le _, rfl, rfl, rfl, rfl, rfl, Lib.hid rfl, Lib.hid okSt0, rfl⟩
  case round =>
    obtain ⟨k, x, ti, di, hk, rfl, rfl, hti, rfl, hdi, HX, HOK, rfl⟩ := hrel
    obtain ⟨t, dg, p0, p1⟩ := x
    simp only at hti hdi HX HOK ⊢
    obtain ⟨o1, o2, o3, o4, o5, o6⟩ := HOK.out
    simp only at o1 o2 o3 o4 o5 o6
    have y1 : (p0 : Int) < 10000000000000000 := by omega
    have y2 : (p1 : Int) < 10000000000000000 := by omega
    have y3 : (0 : Int) ≤ (p0 : Int) := by omega
    have y4 : (0 : Int) ≤ (p1 : Int) := by omega
    have y5 : di ≤ 16 := by omega
    have y6 : 0 ≤ di := by omega
    have HDI := Lib.hid hdi
    clear o2 o3 o4 o5 o6
    by_cases hlt : k < T.length
    · obtain ⟨c, hg⟩ : ∃ c, T[k]? = some c := ⟨_, List.getElem?_eq_getElem hlt⟩
      have hg2 : T[k] = c := Option.some.inj ((List.getElem?_eq_getElem hlt).symm.trans hg)
      have k1 : (k : Int) < (T.length : Int) := by omega
      have k0 : (0 : Int) ≤ (k : Int) := by omega
      have cb : (c.toNat : Int) ≤ 255 := by have := c.toNat_lt; omega
      by_cases d1 : 48 ≤ c.toNat ∧ c.toNat ≤ 57 ∧ dg < 16
      · have s1 : (48 : Int) ≤ (c.toNat : Int) := by omega
        have s2 : (c.toNat : Int) ≤ 57 := by omega
        have s3 : di < 16 := by omega
        by_cases t0 : t = 0
        · subst t0
          obtain rfl : ti = 0 := by omega
          have hs : stp ⟨0, dg, p0, p1⟩ c = some ⟨0, dg + 1, 10 * p0 + (c.toNat - 48), p1⟩ := by unfold stp; rw [if_pos d1]; rfl
          clear d1 hti hdi
          have HY : Hid (scan st0 (T.take (k + 1)) = some ⟨0, dg + 1, 10 * p0 + (c.toNat - 48), p1⟩) := Lib.hid (by rw [List.take_add_one, hg, scan_app, HX.out]; show (stp _ c).bind _ = _; rw [hs]; rfl)
          have HOY := Lib.hid (okSt_stp HOK.out hs)
          clear hs
          go_wp2_with fail
          go_roundw
          case rel => exact ⟨k + 1, ⟨0, dg + 1, 10 * p0 + (c.toNat - 48), p1⟩, 0, di + 1, by omega, by go_num, rfl, rfl, rfl, by have := HDI.out; simp only; omega, HY, HOY, by simp only; rw [show ((10 * p0 + (c.toNat - 48) : Nat) : Int) = (p0 : Int) * 10 + ((c.toNat : Int) - 48) by omega]⟩
          case measure => simp [intOf]; omega
        · obtain rfl : t = 1 := by omega
          obtain rfl : ti = 1 := by omega
          have hs : stp ⟨1, dg, p0, p1⟩ c = some ⟨1, dg + 1, p0, 10 * p1 + (c.toNat - 48)⟩ := by unfold stp; rw [if_pos d1]; rfl
          clear d1 hti hdi t0
          have HY : Hid (scan st0 (T.take (k + 1)) = some ⟨1, dg + 1, p0, 10 * p1 + (c.toNat - 48)⟩) := Lib.hid (by rw [List.take_add_one, hg, scan_app, HX.out]; show (stp _ c).bind _ = _; rw [hs]; rfl)
          have HOY := Lib.hid (okSt_stp HOK.out hs)
          clear hs
          go_wp2_with fail
          go_roundw
          case rel => exact ⟨k + 1, ⟨1, dg + 1, p0, 10 * p1 + (c.toNat - 48)⟩, 1, di + 1, by omega, by go_num, rfl, rfl, rfl, by have := HDI.out; simp only; omega, HY, HOY, by simp only; rw [show ((10 * p1 + (c.toNat - 48) : Nat) : Int) = (p1 : Int) * 10 + ((c.toNat : Int) - 48) by omega]⟩
          case measure => simp [intOf]; omega
      · by_cases d2 : c.toNat = 47 ∧ t = 0 ∧ 0 < dg
        · obtain ⟨c7, rfl, dp⟩ := d2
          obtain rfl : ti = 0 := by omega
          have s1 : ¬ (48 : Int) ≤ (c.toNat : Int) := by omega
          have s2 : ((c.toNat : Int) == 47) = true := by rw [beq_iff_eq]; omega
          have s3 : 0 < di := by omega
          have hs : stp ⟨0, dg, p0, p1⟩ c = some ⟨1, 0, p0, p1⟩ := by unfold stp; rw [if_neg d1, if_pos ⟨c7, rfl, dp⟩]
          clear d1 hti hdi dp c7
          have HY : Hid (scan st0 (T.take (k + 1)) = some ⟨1, 0, p0, p1⟩) := Lib.hid (by rw [List.take_add_one, hg, scan_app, HX.out]; show (stp _ c).bind _ = _; rw [hs]; rfl)
          have HOY := Lib.hid (okSt_stp HOK.out hs)
          clear hs
          go_wp2_with fail
          go_roundw
          case rel => exact ⟨k + 1, ⟨1, 0, p0, p1⟩, 1, 0, by omega, by go_num, rfl, rfl, rfl, by have := HDI.out; simp only; omega, HY, HOY, by rfl⟩
          case measure => simp [intOf]; omega
        · have HE : Hid (∀ n d : Int, chk (n, d) = 0 → txt n d ≠ s) := Lib.hid (fun n d h ht => by
            obtain ⟨x, e1, -⟩ := scan_comp h ht
            rw [HC.out] at e1
            simp only at e1
            rw [← List.take_append_drop (k + 1) T, List.take_add_one, hg, scan_app, scan_app, HX.out] at e1
            have hs : stp ⟨t, dg, p0, p1⟩ c = none := by unfold stp; rw [if_neg d1, if_neg d2]
            have e2 : scan ⟨t, dg, p0, p1⟩ (some c).toList = none := by show (stp _ c).bind _ = _; rw [hs]; rfl
            simp only [Option.bind_some] at e1
            rw [e2] at e1
            cases e1)
          have D1 : Hid (¬ (48 ≤ c.toNat ∧ c.toNat ≤ 57 ∧ dg < 16)) := Lib.hid d1
          have D2 : Hid (¬ (c.toNat = 47 ∧ t = 0 ∧ 0 < dg)) := Lib.hid d2
          have HTI := Lib.hid hti
          clear d1 d2 hti hdi
          have hd1 := D1.out
          have hd2 := D2.out
          by_cases a1 : 48 ≤ c.toNat
          · have s1 : (48 : Int) ≤ (c.toNat : Int) := by omega
            have s4 : ((c.toNat : Int) == 47) = false := by rw [beq_eq_false_iff_ne]; omega
            by_cases a2 : c.toNat ≤ 57
            · have s2 : (c.toNat : Int) ≤ 57 := by omega
              have s3 : ¬ di < 16 := by have := HDI.out; omega
              clear hd1 hd2 a1 a2
              go_wp2_with fail
              ((try rw [Exit.noGoto_ret]); refine bodyPost_ret (v := .tuple #[.agg #[.int .i64 0, .int .i64 0], .int .i64 3]) (by simp [results, Tryd.results8, go_sem]) rfl ?_; unfold ParPost; exact ⟨0, 0, 3, rfl, .inr ⟨rfl, rfl, HE.out⟩, (by repeat' (first | (with_reducible refine bset ?_ ?_) | (with_reducible exact Below.refl _ _) | (with_reducible assumption) | (with_reducible refine bdrewN ?_ _) | (with_reducible refine bdrew ?_) | (with_reducible refine balloc0 ?_) | (with_reducible refine balloc ?_ ?_) | (with_reducible apply btrans0; rotate_left; with_reducible assumption) | (with_reducible apply btrans; rotate_left; with_reducible assumption) | exact Below.refl _ _ | assumption | (apply btrans0; rotate_left; assumption) | (apply btrans; rotate_left; assumption) | (simp; done) | omega | (simp; omega)))⟩)
            · have s2 : ¬ (c.toNat : Int) ≤ 57 := by omega
              clear hd1 hd2 a1 a2
              go_wp2_with fail
              ((try rw [Exit.noGoto_ret]); refine bodyPost_ret (v := .tuple #[.agg #[.int .i64 0, .int .i64 0], .int .i64 3]) (by simp [results, Tryd.results8, go_sem]) rfl ?_; unfold ParPost; exact ⟨0, 0, 3, rfl, .inr ⟨rfl, rfl, HE.out⟩, (by repeat' (first | (with_reducible refine bset ?_ ?_) | (with_reducible exact Below.refl _ _) | (with_reducible assumption) | (with_reducible refine bdrewN ?_ _) | (with_reducible refine bdrew ?_) | (with_reducible refine balloc0 ?_) | (with_reducible refine balloc ?_ ?_) | (with_reducible apply btrans0; rotate_left; with_reducible assumption) | (with_reducible apply btrans; rotate_left; with_reducible assumption) | exact Below.refl _ _ | assumption | (apply btrans0; rotate_left; assumption) | (apply btrans; rotate_left; assumption) | (simp; done) | omega | (simp; omega)))⟩)
          · have s1 : ¬ (48 : Int) ≤ (c.toNat : Int) := by omega
            by_cases a3 : c.toNat = 47
            · have s2 : ((c.toNat : Int) == 47) = true := by rw [beq_iff_eq]; omega
              by_cases t0 : t = 0
              · obtain rfl : ti = 0 := by have := HTI.out; omega
                have s3 : ¬ 0 < di := by have := HDI.out; omega
                clear hd1 hd2 a1 a3 t0
                go_wp2_with fail
                ((try rw [Exit.noGoto_ret]); refine bodyPost_ret (v := .tuple #[.agg #[.int .i64 0, .int .i64 0], .int .i64 3]) (by simp [results, Tryd.results8, go_sem]) rfl ?_; unfold ParPost; exact ⟨0, 0, 3, rfl, .inr ⟨rfl, rfl, HE.out⟩, (by repeat' (first | (with_reducible refine bset ?_ ?_) | (with_reducible exact Below.refl _ _) | (with_reducible assumption) | (with_reducible refine bdrewN ?_ _) | (with_reducible refine bdrew ?_) | (with_reducible refine balloc0 ?_) | (with_reducible refine balloc ?_ ?_) | (with_reducible apply btrans0; rotate_left; with_reducible assumption) | (with_reducible apply btrans; rotate_left; with_reducible assumption) | exact Below.refl _ _ | assumption | (apply btrans0; rotate_left; assumption) | (apply btrans; rotate_left; assumption) | (simp; done) | omega | (simp; omega)))⟩)
              · obtain rfl : ti = 1 := by have := HTI.out; omega
                clear hd1 hd2 a1 a3 t0
                go_wp2_with fail
                ((try rw [Exit.noGoto_ret]); refine bodyPost_ret (v := .tuple #[.agg #[.int .i64 0, .int .i64 0], .int .i64 3]) (by simp [results, Tryd.results8, go_sem]) rfl ?_; unfold ParPost; exact ⟨0, 0, 3, rfl, .inr ⟨rfl, rfl, HE.out⟩, (by repeat' (first | (with_reducible refine bset ?_ ?_) | (with_reducible exact Below.refl _ _) | (with_reducible assumption) | (with_reducible refine bdrewN ?_ _) | (with_reducible refine bdrew ?_) | (with_reducible refine balloc0 ?_) | (with_reducible refine balloc ?_ ?_) | (with_reducible apply btrans0; rotate_left; with_reducible assumption) | (with_reducible apply btrans; rotate_left; with_reducible assumption) | exact Below.refl _ _ | assumption | (apply btrans0; rotate_left; assumption) | (apply btrans; rotate_left; assumption) | (simp; done) | omega | (simp; omega)))⟩)
            · have s2 : ((c.toNat : Int) == 47) = false := by rw [beq_eq_false_iff_ne]; omega
              clear hd1 hd2 a1 a3
              go_wp2_with fail
              ((try rw [Exit.noGoto_ret]); refine bodyPost_ret (v := .tuple #[.agg #[.int .i64 0, .int .i64 0], .int .i64 3]) (by simp [results, Tryd.results8, go_sem]) rfl ?_; unfold ParPost; exact ⟨0, 0, 3, rfl, .inr ⟨rfl, rfl, HE.out⟩, (by repeat' (first | (with_reducible refine bset ?_ ?_) | (with_reducible exact Below.refl _ _) | (with_reducible assumption) | (with_reducible refine bdrewN ?_ _) | (with_reducible refine bdrew ?_) | (with_reducible refine balloc0 ?_) | (with_reducible refine balloc ?_ ?_) | (with_reducible apply btrans0; rotate_left; with_reducible assumption) | (with_reducible apply btrans; rotate_left; with_reducible assumption) | exact Below.refl _ _ | assumption | (apply btrans0; rotate_left; assumption) | (apply btrans; rotate_left; assumption) | (simp; done) | omega | (simp; omega)))⟩)
    · obtain rfl : k = T.length := by omega
      have k1 : ¬ (T.length : Int) < (T.length : Int) := by omega
      have HX : Hid (scan st0 T = some ⟨t, dg, p0, p1⟩) := Lib.hid (by have := HX.out; rwa [List.take_length] at this)
      clear HOK hdi HDI
      cases neg with
      | true =>
        by_cases t0 : t = 0
        · subst t0
          obtain rfl : ti = 0 := by omega
          clear hti
          obtain ⟨⟨⟨P, Q⟩, C⟩, hnw⟩ : ∃ q, newS (-(p0 : Int)) 1 = q := ⟨_, rfl⟩
          have HNW := Lib.hid hnw
          obtain ⟨b1, b2, b3, b4⟩ := newS_bd hnw
          have hno0 : ∀ n d : Int, chk (n, d) = 0 → txt n d = s → ((P, Q), C) = (((n, d), 0) : R2 × Int) := fun n d h ht => by
            obtain ⟨x, e1, e2⟩ := scan_comp h ht
            rw [HC.out] at e1 e2
            simp only at e1 e2
            rw [HX.out] at e1
            injection e1 with e1
            subst e1
            rw [← HNW.out]
            have e3 : ((-(p0 : Int)), 1) = (n, d) := by rw [← e2]; rfl
            simp only [Prod.mk.injEq] at e3
            rw [e3.1, e3.2]
            exact newS_ok h
          clear hnw
          have HNO := Lib.hid hno0
          clear hno0
          by_cases c0 : C = 0
          case neg =>
            have c1 : (C != 0) = true := by rw [bne_iff_ne]; exact c0
            have HE : Hid (∀ n d : Int, chk (n, d) = 0 → txt n d ≠ s) := Lib.hid (fun n d h ht => c0 (by have := HNO.out n d h ht; simp only [Prod.mk.injEq] at this; exact this.2))
            clear c0
            go_wp2_with fail
            refine (new_any (-(p0 : Int)) 1 P Q C _ (by omega) (by omega) (by omega) (by omega) HNW.out).mono ?_
            rintro e w2 ⟨rfl, hb2⟩
            have hB2 : Below w.heap.size w w2 := (by repeat' (first | (with_reducible refine bset ?_ ?_) | (with_reducible exact Below.refl _ _) | (with_reducible assumption) | (with_reducible refine bdrewN ?_ _) | (with_reducible refine bdrew ?_) | (with_reducible refine balloc0 ?_) | (with_reducible refine balloc ?_ ?_) | (with_reducible apply btrans0; rotate_left; with_reducible assumption) | (with_reducible apply btrans; rotate_left; with_reducible assumption) | exact Below.refl _ _ | assumption | (apply btrans0; rotate_left; assumption) | (apply btrans; rotate_left; assumption) | (simp; done) | omega | (simp; omega)))
            have A2 : w2.heap[w.heap.size]? = some (.cells #[.int .i64 0, .int .i64 0] 23 (0, 0)) := (hb2.block _ (by simp; omega)).trans ((Below.heap_alloc _ _ _ (by simp)).trans heap_new)
            have ca2 := fun o => cellB A2 o
            have fa2 := fun o => frozenB A2 o
            have HA2 := Lib.hid A2
            clear A2
            have z2 : w.heap.size + 1 < w2.heap.size := by have := hb2.size; simp at this; omega
            have z2a : w.heap.size < w2.heap.size := by omega
            clear hb2
            go_wp2_with fail
            (try rw [Exit.noGoto_ret])
            refine bodyPost_ret (v := .tuple #[.agg #[.int .i64 0, .int .i64 0], .int .i64 3]) (by simp [results, Tryd.results8, go_sem, World.cell?_setCell_same', ca2, z2a]) rfl ?_
            unfold ParPost
            exact ⟨0, 0, 3, rfl, .inr ⟨rfl, rfl, HE.out⟩, (by repeat' (first | (with_reducible refine bset ?_ ?_) | (with_reducible exact Below.refl _ _) | (with_reducible assumption) | (with_reducible refine bdrewN ?_ _) | (with_reducible refine bdrew ?_) | (with_reducible refine balloc0 ?_) | (with_reducible refine balloc ?_ ?_) | (with_reducible apply btrans0; rotate_left; with_reducible assumption) | (with_reducible apply btrans; rotate_left; with_reducible assumption) | exact Below.refl _ _ | assumption | (apply btrans0; rotate_left; assumption) | (apply btrans; rotate_left; assumption) | (simp; done) | omega | (simp; omega)))⟩
          subst c0
          obtain ⟨⟨U, G⟩, hpr⟩ : ∃ q, prtS (P, Q) = q := ⟨_, rfl⟩
          have HPR := Lib.hid hpr
          by_cases g0 : G = 0
          case neg =>
            have g1 : (G != 0) = true := by rw [bne_iff_ne]; exact g0
            have HE : Hid (∀ n d : Int, chk (n, d) = 0 → txt n d ≠ s) := Lib.hid (fun n d h ht => by
              have := HNO.out n d h ht
              simp only [Prod.mk.injEq, and_true] at this
              rw [this.1, this.2, prtS_ok h] at hpr
              exact g0 (by simp only [Prod.mk.injEq] at hpr; exact hpr.2.symm))
            clear g0 hpr
            go_wp2_with fail
            refine (new_any (-(p0 : Int)) 1 P Q 0 _ (by omega) (by omega) (by omega) (by omega) HNW.out).mono ?_
            rintro e w2 ⟨rfl, hb2⟩
            have hB2 : Below w.heap.size w w2 := (by repeat' (first | (with_reducible refine bset ?_ ?_) | (with_reducible exact Below.refl _ _) | (with_reducible assumption) | (with_reducible refine bdrewN ?_ _) | (with_reducible refine bdrew ?_) | (with_reducible refine balloc0 ?_) | (with_reducible refine balloc ?_ ?_) | (with_reducible apply btrans0; rotate_left; with_reducible assumption) | (with_reducible apply btrans; rotate_left; with_reducible assumption) | exact Below.refl _ _ | assumption | (apply btrans0; rotate_left; assumption) | (apply btrans; rotate_left; assumption) | (simp; done) | omega | (simp; omega)))
            have A2 : w2.heap[w.heap.size]? = some (.cells #[.int .i64 0, .int .i64 0] 23 (0, 0)) := (hb2.block _ (by simp; omega)).trans ((Below.heap_alloc _ _ _ (by simp)).trans heap_new)
            have ca2 := fun o => cellB A2 o
            have fa2 := fun o => frozenB A2 o
            have HA2 := Lib.hid A2
            clear A2
            have z2 : w.heap.size + 1 < w2.heap.size := by have := hb2.size; simp at this; omega
            have z2a : w.heap.size < w2.heap.size := by omega
            clear hb2
            go_wp2_with fail
            refine (print_any P Q _ (by omega) (by omega) (by omega) (by omega) (hT.stays (by repeat' (first | (with_reducible refine bset ?_ ?_) | (with_reducible exact Below.refl _ _) | (with_reducible assumption) | (with_reducible refine bdrewN ?_ _) | (with_reducible refine bdrew ?_) | (with_reducible refine balloc0 ?_) | (with_reducible refine balloc ?_ ?_) | (with_reducible apply btrans0; rotate_left; with_reducible assumption) | (with_reducible apply btrans; rotate_left; with_reducible assumption) | exact Below.refl _ _ | assumption | (apply btrans0; rotate_left; assumption) | (apply btrans; rotate_left; assumption) | (simp; done) | omega | (simp; omega))))).mono ?_
            unfold PrtPost
            rw [HPR.out]
            rintro e w3 ⟨rfl, hb3⟩
            have hB3 : Below w.heap.size w w3 := (by repeat' (first | (with_reducible refine bset ?_ ?_) | (with_reducible exact Below.refl _ _) | (with_reducible assumption) | (with_reducible refine bdrewN ?_ _) | (with_reducible refine bdrew ?_) | (with_reducible refine balloc0 ?_) | (with_reducible refine balloc ?_ ?_) | (with_reducible apply btrans0; rotate_left; with_reducible assumption) | (with_reducible apply btrans; rotate_left; with_reducible assumption) | exact Below.refl _ _ | assumption | (apply btrans0; rotate_left; assumption) | (apply btrans; rotate_left; assumption) | (simp; done) | omega | (simp; omega)))
            have A3 := (hb3.block w.heap.size (by simp; omega)).trans ((Below.heap_alloc _ _ _ z2a).trans HA2.out)
            have X3 : w3.heap[w2.heap.size]? = some (.cells #[.int .i64 P, .int .i64 Q] 23 (0, 0)) := (hb3.block _ (by simp)).trans heap_new
            clear ca2 fa2
            have ca3 := fun o => cellB A3 o
            have fa3 := fun o => frozenB A3 o
            have cx3 := fun o => cellB X3 o
            clear A3 X3
            have z3 : w2.heap.size < w3.heap.size := by have := hb3.size; simp at this; omega
            have z3a : w.heap.size < w3.heap.size := by omega
            go_wp2_with fail
            (try rw [Exit.noGoto_ret])
            refine bodyPost_ret (v := .tuple #[.agg #[.int .i64 0, .int .i64 0], .int .i64 3]) (by simp [results, Tryd.results8, go_sem, World.cell?_setCell_same', ca3, cx3, z3a, z3]) rfl ?_
            unfold ParPost
            exact ⟨0, 0, 3, rfl, .inr ⟨rfl, rfl, HE.out⟩, (by repeat' (first | (with_reducible refine bset ?_ ?_) | (with_reducible exact Below.refl _ _) | (with_reducible assumption) | (with_reducible refine bdrewN ?_ _) | (with_reducible refine bdrew ?_) | (with_reducible refine balloc0 ?_) | (with_reducible refine balloc ?_ ?_) | (with_reducible apply btrans0; rotate_left; with_reducible assumption) | (with_reducible apply btrans; rotate_left; with_reducible assumption) | exact Below.refl _ _ | assumption | (apply btrans0; rotate_left; assumption) | (apply btrans; rotate_left; assumption) | (simp; done) | omega | (simp; omega)))⟩
          subst g0
          obtain ⟨q1, q2⟩ := prtS_zero (show (prtS (P, Q)).2 = 0 by rw [hpr])
          rw [hpr] at q2
          by_cases u0 : U = s
          case neg =>
            have u1 : (U == s) = false := beq_eq_false_iff_ne.2 u0
            have HE : Hid (∀ n d : Int, chk (n, d) = 0 → txt n d ≠ s) := Lib.hid (fun n d h ht => by
              have := HNO.out n d h ht
              simp only [Prod.mk.injEq, and_true] at this
              simp only at q2
              rw [this.1, this.2, ht] at q2
              exact u0 q2)
            clear hpr q1 q2
            go_wp2_with fail
            refine (new_any (-(p0 : Int)) 1 P Q 0 _ (by omega) (by omega) (by omega) (by omega) HNW.out).mono ?_
            rintro e w2 ⟨rfl, hb2⟩
            have hB2 : Below w.heap.size w w2 := (by repeat' (first | (with_reducible refine bset ?_ ?_) | (with_reducible exact Below.refl _ _) | (with_reducible assumption) | (with_reducible refine bdrewN ?_ _) | (with_reducible refine bdrew ?_) | (with_reducible refine balloc0 ?_) | (with_reducible refine balloc ?_ ?_) | (with_reducible apply btrans0; rotate_left; with_reducible assumption) | (with_reducible apply btrans; rotate_left; with_reducible assumption) | exact Below.refl _ _ | assumption | (apply btrans0; rotate_left; assumption) | (apply btrans; rotate_left; assumption) | (simp; done) | omega | (simp; omega)))
            have A2 : w2.heap[w.heap.size]? = some (.cells #[.int .i64 0, .int .i64 0] 23 (0, 0)) := (hb2.block _ (by simp; omega)).trans ((Below.heap_alloc _ _ _ (by simp)).trans heap_new)
            have ca2 := fun o => cellB A2 o
            have fa2 := fun o => frozenB A2 o
            have HA2 := Lib.hid A2
            clear A2
            have z2 : w.heap.size + 1 < w2.heap.size := by have := hb2.size; simp at this; omega
            have z2a : w.heap.size < w2.heap.size := by omega
            clear hb2
            go_wp2_with fail
            refine (print_any P Q _ (by omega) (by omega) (by omega) (by omega) (hT.stays (by repeat' (first | (with_reducible refine bset ?_ ?_) | (with_reducible exact Below.refl _ _) | (with_reducible assumption) | (with_reducible refine bdrewN ?_ _) | (with_reducible refine bdrew ?_) | (with_reducible refine balloc0 ?_) | (with_reducible refine balloc ?_ ?_) | (with_reducible apply btrans0; rotate_left; with_reducible assumption) | (with_reducible apply btrans; rotate_left; with_reducible assumption) | exact Below.refl _ _ | assumption | (apply btrans0; rotate_left; assumption) | (apply btrans; rotate_left; assumption) | (simp; done) | omega | (simp; omega))))).mono ?_
            unfold PrtPost
            rw [HPR.out]
            rintro e w3 ⟨rfl, hb3⟩
            have hB3 : Below w.heap.size w w3 := (by repeat' (first | (with_reducible refine bset ?_ ?_) | (with_reducible exact Below.refl _ _) | (with_reducible assumption) | (with_reducible refine bdrewN ?_ _) | (with_reducible refine bdrew ?_) | (with_reducible refine balloc0 ?_) | (with_reducible refine balloc ?_ ?_) | (with_reducible apply btrans0; rotate_left; with_reducible assumption) | (with_reducible apply btrans; rotate_left; with_reducible assumption) | exact Below.refl _ _ | assumption | (apply btrans0; rotate_left; assumption) | (apply btrans; rotate_left; assumption) | (simp; done) | omega | (simp; omega)))
            have A3 := (hb3.block w.heap.size (by simp; omega)).trans ((Below.heap_alloc _ _ _ z2a).trans HA2.out)
            have X3 : w3.heap[w2.heap.size]? = some (.cells #[.int .i64 P, .int .i64 Q] 23 (0, 0)) := (hb3.block _ (by simp)).trans heap_new
            clear ca2 fa2
            have ca3 := fun o => cellB A3 o
            have fa3 := fun o => frozenB A3 o
            have cx3 := fun o => cellB X3 o
            clear A3 X3
            have z3 : w2.heap.size < w3.heap.size := by have := hb3.size; simp at this; omega
            have z3a : w.heap.size < w3.heap.size := by omega
            go_wp2_with fail
            (try rw [Exit.noGoto_ret])
            refine bodyPost_ret (v := .tuple #[.agg #[.int .i64 0, .int .i64 0], .int .i64 3]) (by simp [results, Tryd.results8, go_sem, World.cell?_setCell_same', ca3, cx3, z3a, z3]) rfl ?_
            unfold ParPost
            exact ⟨0, 0, 3, rfl, .inr ⟨rfl, rfl, HE.out⟩, (by repeat' (first | (with_reducible refine bset ?_ ?_) | (with_reducible exact Below.refl _ _) | (with_reducible assumption) | (with_reducible refine bdrewN ?_ _) | (with_reducible refine bdrew ?_) | (with_reducible refine balloc0 ?_) | (with_reducible refine balloc ?_ ?_) | (with_reducible apply btrans0; rotate_left; with_reducible assumption) | (with_reducible apply btrans; rotate_left; with_reducible assumption) | exact Below.refl _ _ | assumption | (apply btrans0; rotate_left; assumption) | (apply btrans; rotate_left; assumption) | (simp; done) | omega | (simp; omega)))⟩
          subst u0
          have HQ : Hid (chk (P, Q) = 0 ∧ txt P Q = U) := Lib.hid ⟨q1, q2.symm⟩
          clear hpr q1 q2
          go_wp2_with fail
          refine (new_any (-(p0 : Int)) 1 P Q 0 _ (by omega) (by omega) (by omega) (by omega) HNW.out).mono ?_
          rintro e w2 ⟨rfl, hb2⟩
          have hB2 : Below w.heap.size w w2 := (by repeat' (first | (with_reducible refine bset ?_ ?_) | (with_reducible exact Below.refl _ _) | (with_reducible assumption) | (with_reducible refine bdrewN ?_ _) | (with_reducible refine bdrew ?_) | (with_reducible refine balloc0 ?_) | (with_reducible refine balloc ?_ ?_) | (with_reducible apply btrans0; rotate_left; with_reducible assumption) | (with_reducible apply btrans; rotate_left; with_reducible assumption) | exact Below.refl _ _ | assumption | (apply btrans0; rotate_left; assumption) | (apply btrans; rotate_left; assumption) | (simp; done) | omega | (simp; omega)))
          have A2 : w2.heap[w.heap.size]? = some (.cells #[.int .i64 0, .int .i64 0] 23 (0, 0)) := (hb2.block _ (by simp; omega)).trans ((Below.heap_alloc _ _ _ (by simp)).trans heap_new)
          have ca2 := fun o => cellB A2 o
          have fa2 := fun o => frozenB A2 o
          have HA2 := Lib.hid A2
          clear A2
          have z2 : w.heap.size + 1 < w2.heap.size := by have := hb2.size; simp at this; omega
          have z2a : w.heap.size < w2.heap.size := by omega
          clear hb2
          go_wp2_with fail
          refine (print_any P Q _ (by omega) (by omega) (by omega) (by omega) (hT.stays (by repeat' (first | (with_reducible refine bset ?_ ?_) | (with_reducible exact Below.refl _ _) | (with_reducible assumption) | (with_reducible refine bdrewN ?_ _) | (with_reducible refine bdrew ?_) | (with_reducible refine balloc0 ?_) | (with_reducible refine balloc ?_ ?_) | (with_reducible apply btrans0; rotate_left; with_reducible assumption) | (with_reducible apply btrans; rotate_left; with_reducible assumption) | exact Below.refl _ _ | assumption | (apply btrans0; rotate_left; assumption) | (apply btrans; rotate_left; assumption) | (simp; done) | omega | (simp; omega))))).mono ?_
          unfold PrtPost
          rw [HPR.out]
          rintro e w3 ⟨rfl, hb3⟩
          have hB3 : Below w.heap.size w w3 := (by repeat' (first | (with_reducible refine bset ?_ ?_) | (with_reducible exact Below.refl _ _) | (with_reducible assumption) | (with_reducible refine bdrewN ?_ _) | (with_reducible refine bdrew ?_) | (with_reducible refine balloc0 ?_) | (with_reducible refine balloc ?_ ?_) | (with_reducible apply btrans0; rotate_left; with_reducible assumption) | (with_reducible apply btrans; rotate_left; with_reducible assumption) | exact Below.refl _ _ | assumption | (apply btrans0; rotate_left; assumption) | (apply btrans; rotate_left; assumption) | (simp; done) | omega | (simp; omega)))
          have A3 := (hb3.block w.heap.size (by simp; omega)).trans ((Below.heap_alloc _ _ _ z2a).trans HA2.out)
          have X3 : w3.heap[w2.heap.size]? = some (.cells #[.int .i64 P, .int .i64 Q] 23 (0, 0)) := (hb3.block _ (by simp)).trans heap_new
          clear ca2 fa2
          have ca3 := fun o => cellB A3 o
          have fa3 := fun o => frozenB A3 o
          have cx3 := fun o => cellB X3 o
          clear A3 X3
          have z3 : w2.heap.size < w3.heap.size := by have := hb3.size; simp at this; omega
          have z3a : w.heap.size < w3.heap.size := by omega
          go_wp2_with fail
          (try rw [Exit.noGoto_ret])
          refine bodyPost_ret (v := .tuple #[.agg #[.int .i64 P, .int .i64 Q], .int .i64 0]) (by simp [results, Tryd.results8, go_sem, World.cell?_setCell_same', ca3, cx3, z3a, z3]) rfl ?_
          unfold ParPost
          exact ⟨P, Q, 0, rfl, .inl ⟨rfl, HQ.out.1, HQ.out.2⟩, (by repeat' (first | (with_reducible refine bset ?_ ?_) | (with_reducible exact Below.refl _ _) | (with_reducible assumption) | (with_reducible refine bdrewN ?_ _) | (with_reducible refine bdrew ?_) | (with_reducible refine balloc0 ?_) | (with_reducible refine balloc ?_ ?_) | (with_reducible apply btrans0; rotate_left; with_reducible assumption) | (with_reducible apply btrans; rotate_left; with_reducible assumption) | exact Below.refl _ _ | assumption | (apply btrans0; rotate_left; assumption) | (apply btrans; rotate_left; assumption) | (simp; done) | omega | (simp; omega)))⟩
        · obtain rfl : t = 1 := by omega
          obtain rfl : ti = 1 := by omega
          clear hti t0
          obtain ⟨⟨⟨P, Q⟩, C⟩, hnw⟩ : ∃ q, newS (-(p0 : Int)) (p1 : Int) = q := ⟨_, rfl⟩
          have HNW := Lib.hid hnw
          obtain ⟨b1, b2, b3, b4⟩ := newS_bd hnw
          have hno0 : ∀ n d : Int, chk (n, d) = 0 → txt n d = s → ((P, Q), C) = (((n, d), 0) : R2 × Int) := fun n d h ht => by
            obtain ⟨x, e1, e2⟩ := scan_comp h ht
            rw [HC.out] at e1 e2
            simp only at e1 e2
            rw [HX.out] at e1
            injection e1 with e1
            subst e1
            rw [← HNW.out]
            have e3 : ((-(p0 : Int)), (p1 : Int)) = (n, d) := by rw [← e2]; rfl
            simp only [Prod.mk.injEq] at e3
            rw [e3.1, e3.2]
            exact newS_ok h
          clear hnw
          have HNO := Lib.hid hno0
          clear hno0
          by_cases c0 : C = 0
          case neg =>
            have c1 : (C != 0) = true := by rw [bne_iff_ne]; exact c0
            have HE : Hid (∀ n d : Int, chk (n, d) = 0 → txt n d ≠ s) := Lib.hid (fun n d h ht => c0 (by have := HNO.out n d h ht; simp only [Prod.mk.injEq] at this; exact this.2))
            clear c0
            go_wp2_with fail
            refine (new_any (-(p0 : Int)) (p1 : Int) P Q C _ (by omega) (by omega) (by omega) (by omega) HNW.out).mono ?_
            rintro e w2 ⟨rfl, hb2⟩
            have hB2 : Below w.heap.size w w2 := (by repeat' (first | (with_reducible refine bset ?_ ?_) | (with_reducible exact Below.refl _ _) | (with_reducible assumption) | (with_reducible refine bdrewN ?_ _) | (with_reducible refine bdrew ?_) | (with_reducible refine balloc0 ?_) | (with_reducible refine balloc ?_ ?_) | (with_reducible apply btrans0; rotate_left; with_reducible assumption) | (with_reducible apply btrans; rotate_left; with_reducible assumption) | exact Below.refl _ _ | assumption | (apply btrans0; rotate_left; assumption) | (apply btrans; rotate_left; assumption) | (simp; done) | omega | (simp; omega)))
            have A2 : w2.heap[w.heap.size]? = some (.cells #[.int .i64 0, .int .i64 0] 23 (0, 0)) := (hb2.block _ (by simp; omega)).trans ((Below.heap_alloc _ _ _ (by simp)).trans heap_new)
            have ca2 := fun o => cellB A2 o
            have fa2 := fun o => frozenB A2 o
            have HA2 := Lib.hid A2
            clear A2
            have z2 : w.heap.size + 1 < w2.heap.size := by have := hb2.size; simp at this; omega
            have z2a : w.heap.size < w2.heap.size := by omega
            clear hb2
            go_wp2_with fail
            (try rw [Exit.noGoto_ret])
            refine bodyPost_ret (v := .tuple #[.agg #[.int .i64 0, .int .i64 0], .int .i64 3]) (by simp [results, Tryd.results8, go_sem, World.cell?_setCell_same', ca2, z2a]) rfl ?_
            unfold ParPost
            exact ⟨0, 0, 3, rfl, .inr ⟨rfl, rfl, HE.out⟩, (by repeat' (first | (with_reducible refine bset ?_ ?_) | (with_reducible exact Below.refl _ _) | (with_reducible assumption) | (with_reducible refine bdrewN ?_ _) | (with_reducible refine bdrew ?_) | (with_reducible refine balloc0 ?_) | (with_reducible refine balloc ?_ ?_) | (with_reducible apply btrans0; rotate_left; with_reducible assumption) | (with_reducible apply btrans; rotate_left; with_reducible assumption) | exact Below.refl _ _ | assumption | (apply btrans0; rotate_left; assumption) | (apply btrans; rotate_left; assumption) | (simp; done) | omega | (simp; omega)))⟩
          subst c0
          obtain ⟨⟨U, G⟩, hpr⟩ : ∃ q, prtS (P, Q) = q := ⟨_, rfl⟩
          have HPR := Lib.hid hpr
          by_cases g0 : G = 0
          case neg =>
            have g1 : (G != 0) = true := by rw [bne_iff_ne]; exact g0
            have HE : Hid (∀ n d : Int, chk (n, d) = 0 → txt n d ≠ s) := Lib.hid (fun n d h ht => by
              have := HNO.out n d h ht
              simp only [Prod.mk.injEq, and_true] at this
              rw [this.1, this.2, prtS_ok h] at hpr
              exact g0 (by simp only [Prod.mk.injEq] at hpr; exact hpr.2.symm))
            clear g0 hpr
            go_wp2_with fail
            refine (new_any (-(p0 : Int)) (p1 : Int) P Q 0 _ (by omega) (by omega) (by omega) (by omega) HNW.out).mono ?_
            rintro e w2 ⟨rfl, hb2⟩
            have hB2 : Below w.heap.size w w2 := (by repeat' (first | (with_reducible refine bset ?_ ?_) | (with_reducible exact Below.refl _ _) | (with_reducible assumption) | (with_reducible refine bdrewN ?_ _) | (with_reducible refine bdrew ?_) | (with_reducible refine balloc0 ?_) | (with_reducible refine balloc ?_ ?_) | (with_reducible apply btrans0; rotate_left; with_reducible assumption) | (with_reducible apply btrans; rotate_left; with_reducible assumption) | exact Below.refl _ _ | assumption | (apply btrans0; rotate_left; assumption) | (apply btrans; rotate_left; assumption) | (simp; done) | omega | (simp; omega)))
            have A2 : w2.heap[w.heap.size]? = some (.cells #[.int .i64 0, .int .i64 0] 23 (0, 0)) := (hb2.block _ (by simp; omega)).trans ((Below.heap_alloc _ _ _ (by simp)).trans heap_new)
            have ca2 := fun o => cellB A2 o
            have fa2 := fun o => frozenB A2 o
            have HA2 := Lib.hid A2
            clear A2
            have z2 : w.heap.size + 1 < w2.heap.size := by have := hb2.size; simp at this; omega
            have z2a : w.heap.size < w2.heap.size := by omega
            clear hb2
            go_wp2_with fail
            refine (print_any P Q _ (by omega) (by omega) (by omega) (by omega) (hT.stays (by repeat' (first | (with_reducible refine bset ?_ ?_) | (with_reducible exact Below.refl _ _) | (with_reducible assumption) | (with_reducible refine bdrewN ?_ _) | (with_reducible refine bdrew ?_) | (with_reducible refine balloc0 ?_) | (with_reducible refine balloc ?_ ?_) | (with_reducible apply btrans0; rotate_left; with_reducible assumption) | (with_reducible apply btrans; rotate_left; with_reducible assumption) | exact Below.refl _ _ | assumption | (apply btrans0; rotate_left; assumption) | (apply btrans; rotate_left; assumption) | (simp; done) | omega | (simp; omega))))).mono ?_
            unfold PrtPost
            rw [HPR.out]
            rintro e w3 ⟨rfl, hb3⟩
            have hB3 : Below w.heap.size w w3 := (by repeat' (first | (with_reducible refine bset ?_ ?_) | (with_reducible exact Below.refl _ _) | (with_reducible assumption) | (with_reducible refine bdrewN ?_ _) | (with_reducible refine bdrew ?_) | (with_reducible refine balloc0 ?_) | (with_reducible refine balloc ?_ ?_) | (with_reducible apply btrans0; rotate_left; with_reducible assumption) | (with_reducible apply btrans; rotate_left; with_reducible assumption) | exact Below.refl _ _ | assumption | (apply btrans0; rotate_left; assumption) | (apply btrans; rotate_left; assumption) | (simp; done) | omega | (simp; omega)))
            have A3 := (hb3.block w.heap.size (by simp; omega)).trans ((Below.heap_alloc _ _ _ z2a).trans HA2.out)
            have X3 : w3.heap[w2.heap.size]? = some (.cells #[.int .i64 P, .int .i64 Q] 23 (0, 0)) := (hb3.block _ (by simp)).trans heap_new
            clear ca2 fa2
            have ca3 := fun o => cellB A3 o
            have fa3 := fun o => frozenB A3 o
            have cx3 := fun o => cellB X3 o
            clear A3 X3
            have z3 : w2.heap.size < w3.heap.size := by have := hb3.size; simp at this; omega
            have z3a : w.heap.size < w3.heap.size := by omega
            go_wp2_with fail
            (try rw [Exit.noGoto_ret])
            refine bodyPost_ret (v := .tuple #[.agg #[.int .i64 0, .int .i64 0], .int .i64 3]) (by simp [results, Tryd.results8, go_sem, World.cell?_setCell_same', ca3, cx3, z3a, z3]) rfl ?_
            unfold ParPost
            exact ⟨0, 0, 3, rfl, .inr ⟨rfl, rfl, HE.out⟩, (by repeat' (first | (with_reducible refine bset ?_ ?_) | (with_reducible exact Below.refl _ _) | (with_reducible assumption) | (with_reducible refine bdrewN ?_ _) | (with_reducible refine bdrew ?_) | (with_reducible refine balloc0 ?_) | (with_reducible refine balloc ?_ ?_) | (with_reducible apply btrans0; rotate_left; with_reducible assumption) | (with_reducible apply btrans; rotate_left; with_reducible assumption) | exact Below.refl _ _ | assumption | (apply btrans0; rotate_left; assumption) | (apply btrans; rotate_left; assumption) | (simp; done) | omega | (simp; omega)))⟩
          subst g0
          obtain ⟨q1, q2⟩ := prtS_zero (show (prtS (P, Q)).2 = 0 by rw [hpr])
          rw [hpr] at q2
          by_cases u0 : U = s
          case neg =>
            have u1 : (U == s) = false := beq_eq_false_iff_ne.2 u0
            have HE : Hid (∀ n d : Int, chk (n, d) = 0 → txt n d ≠ s) := Lib.hid (fun n d h ht => by
              have := HNO.out n d h ht
              simp only [Prod.mk.injEq, and_true] at this
              simp only at q2
              rw [this.1, this.2, ht] at q2
              exact u0 q2)
            clear hpr q1 q2
            go_wp2_with fail
            refine (new_any (-(p0 : Int)) (p1 : Int) P Q 0 _ (by omega) (by omega) (by omega) (by omega) HNW.out).mono ?_
            rintro e w2 ⟨rfl, hb2⟩
            have hB2 : Below w.heap.size w w2 := (by repeat' (first | (with_reducible refine bset ?_ ?_) | (with_reducible exact Below.refl _ _) | (with_reducible assumption) | (with_reducible refine bdrewN ?_ _) | (with_reducible refine bdrew ?_) | (with_reducible refine balloc0 ?_) | (with_reducible refine balloc ?_ ?_) | (with_reducible apply btrans0; rotate_left; with_reducible assumption) | (with_reducible apply btrans; rotate_left; with_reducible assumption) | exact Below.refl _ _ | assumption | (apply btrans0; rotate_left; assumption) | (apply btrans; rotate_left; assumption) | (simp; done) | omega | (simp; omega)))
            have A2 : w2.heap[w.heap.size]? = some (.cells #[.int .i64 0, .int .i64 0] 23 (0, 0)) := (hb2.block _ (by simp; omega)).trans ((Below.heap_alloc _ _ _ (by simp)).trans heap_new)
            have ca2 := fun o => cellB A2 o
            have fa2 := fun o => frozenB A2 o
            have HA2 := Lib.hid A2
            clear A2
            have z2 : w.heap.size + 1 < w2.heap.size := by have := hb2.size; simp at this; omega
            have z2a : w.heap.size < w2.heap.size := by omega
            clear hb2
            go_wp2_with fail
            refine (print_any P Q _ (by omega) (by omega) (by omega) (by omega) (hT.stays (by repeat' (first | (with_reducible refine bset ?_ ?_) | (with_reducible exact Below.refl _ _) | (with_reducible assumption) | (with_reducible refine bdrewN ?_ _) | (with_reducible refine bdrew ?_) | (with_reducible refine balloc0 ?_) | (with_reducible refine balloc ?_ ?_) | (with_reducible apply btrans0; rotate_left; with_reducible assumption) | (with_reducible apply btrans; rotate_left; with_reducible assumption) | exact Below.refl _ _ | assumption | (apply btrans0; rotate_left; assumption) | (apply btrans; rotate_left; assumption) | (simp; done) | omega | (simp; omega))))).mono ?_
            unfold PrtPost
            rw [HPR.out]
            rintro e w3 ⟨rfl, hb3⟩
            have hB3 : Below w.heap.size w w3 := (by repeat' (first | (with_reducible refine bset ?_ ?_) | (with_reducible exact Below.refl _ _) | (with_reducible assumption) | (with_reducible refine bdrewN ?_ _) | (with_reducible refine bdrew ?_) | (with_reducible refine balloc0 ?_) | (with_reducible refine balloc ?_ ?_) | (with_reducible apply btrans0; rotate_left; with_reducible assumption) | (with_reducible apply btrans; rotate_left; with_reducible assumption) | exact Below.refl _ _ | assumption | (apply btrans0; rotate_left; assumption) | (apply btrans; rotate_left; assumption) | (simp; done) | omega | (simp; omega)))
            have A3 := (hb3.block w.heap.size (by simp; omega)).trans ((Below.heap_alloc _ _ _ z2a).trans HA2.out)
            have X3 : w3.heap[w2.heap.size]? = some (.cells #[.int .i64 P, .int .i64 Q] 23 (0, 0)) := (hb3.block _ (by simp)).trans heap_new
            clear ca2 fa2
            have ca3 := fun o => cellB A3 o
            have fa3 := fun o => frozenB A3 o
            have cx3 := fun o => cellB X3 o
            clear A3 X3
            have z3 : w2.heap.size < w3.heap.size := by have := hb3.size; simp at this; omega
            have z3a : w.heap.size < w3.heap.size := by omega
            go_wp2_with fail
            (try rw [Exit.noGoto_ret])
            refine bodyPost_ret (v := .tuple #[.agg #[.int .i64 0, .int .i64 0], .int .i64 3]) (by simp [results, Tryd.results8, go_sem, World.cell?_setCell_same', ca3, cx3, z3a, z3]) rfl ?_
            unfold ParPost
            exact ⟨0, 0, 3, rfl, .inr ⟨rfl, rfl, HE.out⟩, (by repeat' (first | (with_reducible refine bset ?_ ?_) | (with_reducible exact Below.refl _ _) | (with_reducible assumption) | (with_reducible refine bdrewN ?_ _) | (with_reducible refine bdrew ?_) | (with_reducible refine balloc0 ?_) | (with_reducible refine balloc ?_ ?_) | (with_reducible apply btrans0; rotate_left; with_reducible assumption) | (with_reducible apply btrans; rotate_left; with_reducible assumption) | exact Below.refl _ _ | assumption | (apply btrans0; rotate_left; assumption) | (apply btrans; rotate_left; assumption) | (simp; done) | omega | (simp; omega)))⟩
          subst u0
          have HQ : Hid (chk (P, Q) = 0 ∧ txt P Q = U) := Lib.hid ⟨q1, q2.symm⟩
          clear hpr q1 q2
          go_wp2_with fail
          refine (new_any (-(p0 : Int)) (p1 : Int) P Q 0 _ (by omega) (by omega) (by omega) (by omega) HNW.out).mono ?_
          rintro e w2 ⟨rfl, hb2⟩
          have hB2 : Below w.heap.size w w2 := (by repeat' (first | (with_reducible refine bset ?_ ?_) | (with_reducible exact Below.refl _ _) | (with_reducible assumption) | (with_reducible refine bdrewN ?_ _) | (with_reducible refine bdrew ?_) | (with_reducible refine balloc0 ?_) | (with_reducible refine balloc ?_ ?_) | (with_reducible apply btrans0; rotate_left; with_reducible assumption) | (with_reducible apply btrans; rotate_left; with_reducible assumption) | exact Below.refl _ _ | assumption | (apply btrans0; rotate_left; assumption) | (apply btrans; rotate_left; assumption) | (simp; done) | omega | (simp; omega)))
          have A2 : w2.heap[w.heap.size]? = some (.cells #[.int .i64 0, .int .i64 0] 23 (0, 0)) := (hb2.block _ (by simp; omega)).trans ((Below.heap_alloc _ _ _ (by simp)).trans heap_new)
          have ca2 := fun o => cellB A2 o
          have fa2 := fun o => frozenB A2 o
          have HA2 := Lib.hid A2
          clear A2
          have z2 : w.heap.size + 1 < w2.heap.size := by have := hb2.size; simp at this; omega
          have z2a : w.heap.size < w2.heap.size := by omega
          clear hb2
          go_wp2_with fail
          refine (print_any P Q _ (by omega) (by omega) (by omega) (by omega) (hT.stays (by repeat' (first | (with_reducible refine bset ?_ ?_) | (with_reducible exact Below.refl _ _) | (with_reducible assumption) | (with_reducible refine bdrewN ?_ _) | (with_reducible refine bdrew ?_) | (with_reducible refine balloc0 ?_) | (with_reducible refine balloc ?_ ?_) | (with_reducible apply btrans0; rotate_left; with_reducible assumption) | (with_reducible apply btrans; rotate_left; with_reducible assumption) | exact Below.refl _ _ | assumption | (apply btrans0; rotate_left; assumption) | (apply btrans; rotate_left; assumption) | (simp; done) | omega | (simp; omega))))).mono ?_
          unfold PrtPost
          rw [HPR.out]
          rintro e w3 ⟨rfl, hb3⟩
          have hB3 : Below w.heap.size w w3 := (by repeat' (first | (with_reducible refine bset ?_ ?_) | (with_reducible exact Below.refl _ _) | (with_reducible assumption) | (with_reducible refine bdrewN ?_ _) | (with_reducible refine bdrew ?_) | (with_reducible refine balloc0 ?_) | (with_reducible refine balloc ?_ ?_) | (with_reducible apply btrans0; rotate_left; with_reducible assumption) | (with_reducible apply btrans; rotate_left; with_reducible assumption) | exact Below.refl _ _ | assumption | (apply btrans0; rotate_left; assumption) | (apply btrans; rotate_left; assumption) | (simp; done) | omega | (simp; omega)))
          have A3 := (hb3.block w.heap.size (by simp; omega)).trans ((Below.heap_alloc _ _ _ z2a).trans HA2.out)
          have X3 : w3.heap[w2.heap.size]? = some (.cells #[.int .i64 P, .int .i64 Q] 23 (0, 0)) := (hb3.block _ (by simp)).trans heap_new
          clear ca2 fa2
          have ca3 := fun o => cellB A3 o
          have fa3 := fun o => frozenB A3 o
          have cx3 := fun o => cellB X3 o
          clear A3 X3
          have z3 : w2.heap.size < w3.heap.size := by have := hb3.size; simp at this; omega
          have z3a : w.heap.size < w3.heap.size := by omega
          go_wp2_with fail
          (try rw [Exit.noGoto_ret])
          refine bodyPost_ret (v := .tuple #[.agg #[.int .i64 P, .int .i64 Q], .int .i64 0]) (by simp [results, Tryd.results8, go_sem, World.cell?_setCell_same', ca3, cx3, z3a, z3]) rfl ?_
          unfold ParPost
          exact ⟨P, Q, 0, rfl, .inl ⟨rfl, HQ.out.1, HQ.out.2⟩, (by repeat' (first | (with_reducible refine bset ?_ ?_) | (with_reducible exact Below.refl _ _) | (with_reducible assumption) | (with_reducible refine bdrewN ?_ _) | (with_reducible refine bdrew ?_) | (with_reducible refine balloc0 ?_) | (with_reducible refine balloc ?_ ?_) | (with_reducible apply btrans0; rotate_left; with_reducible assumption) | (with_reducible apply btrans; rotate_left; with_reducible assumption) | exact Below.refl _ _ | assumption | (apply btrans0; rotate_left; assumption) | (apply btrans; rotate_left; assumption) | (simp; done) | omega | (simp; omega)))⟩
      | false =>
        by_cases t0 : t = 0
        · subst t0
          obtain rfl : ti = 0 := by omega
          clear hti
          obtain ⟨⟨⟨P, Q⟩, C⟩, hnw⟩ : ∃ q, newS (p0 : Int) 1 = q := ⟨_, rfl⟩
          have HNW := Lib.hid hnw
          obtain ⟨b1, b2, b3, b4⟩ := newS_bd hnw
          have hno0 : ∀ n d : Int, chk (n, d) = 0 → txt n d = s → ((P, Q), C) = (((n, d), 0) : R2 × Int) := fun n d h ht => by
            obtain ⟨x, e1, e2⟩ := scan_comp h ht
            rw [HC.out] at e1 e2
            simp only at e1 e2
            rw [HX.out] at e1
            injection e1 with e1
            subst e1
            rw [← HNW.out]
            have e3 : ((p0 : Int), 1) = (n, d) := by rw [← e2]; rfl
            simp only [Prod.mk.injEq] at e3
            rw [e3.1, e3.2]
            exact newS_ok h
          clear hnw
          have HNO := Lib.hid hno0
          clear hno0
          by_cases c0 : C = 0
          case neg =>
            have c1 : (C != 0) = true := by rw [bne_iff_ne]; exact c0
            have HE : Hid (∀ n d : Int, chk (n, d) = 0 → txt n d ≠ s) := Lib.hid (fun n d h ht => c0 (by have := HNO.out n d h ht; simp only [Prod.mk.injEq] at this; exact this.2))
            clear c0
            go_wp2_with fail
            refine (new_any (p0 : Int) 1 P Q C _ (by omega) (by omega) (by omega) (by omega) HNW.out).mono ?_
            rintro e w2 ⟨rfl, hb2⟩
            have hB2 : Below w.heap.size w w2 := (by repeat' (first | (with_reducible refine bset ?_ ?_) | (with_reducible exact Below.refl _ _) | (with_reducible assumption) | (with_reducible refine bdrewN ?_ _) | (with_reducible refine bdrew ?_) | (with_reducible refine balloc0 ?_) | (with_reducible refine balloc ?_ ?_) | (with_reducible apply btrans0; rotate_left; with_reducible assumption) | (with_reducible apply btrans; rotate_left; with_reducible assumption) | exact Below.refl _ _ | assumption | (apply btrans0; rotate_left; assumption) | (apply btrans; rotate_left; assumption) | (simp; done) | omega | (simp; omega)))
            have A2 : w2.heap[w.heap.size]? = some (.cells #[.int .i64 0, .int .i64 0] 23 (0, 0)) := (hb2.block _ (by simp; omega)).trans ((Below.heap_alloc _ _ _ (by simp)).trans heap_new)
            have ca2 := fun o => cellB A2 o
            have fa2 := fun o => frozenB A2 o
            have HA2 := Lib.hid A2
            clear A2
            have z2 : w.heap.size + 1 < w2.heap.size := by have := hb2.size; simp at this; omega
            have z2a : w.heap.size < w2.heap.size := by omega
            clear hb2
            go_wp2_with fail
            (try rw [Exit.noGoto_ret])
            refine bodyPost_ret (v := .tuple #[.agg #[.int .i64 0, .int .i64 0], .int .i64 3]) (by simp [results, Tryd.results8, go_sem, World.cell?_setCell_same', ca2, z2a]) rfl ?_
            unfold ParPost
            exact ⟨0, 0, 3, rfl, .inr ⟨rfl, rfl, HE.out⟩, (by repeat' (first | (with_reducible refine bset ?_ ?_) | (with_reducible exact Below.refl _ _) | (with_reducible assumption) | (with_reducible refine bdrewN ?_ _) | (with_reducible refine bdrew ?_) | (with_reducible refine balloc0 ?_) | (with_reducible refine balloc ?_ ?_) | (with_reducible apply btrans0; rotate_left; with_reducible assumption) | (with_reducible apply btrans; rotate_left; with_reducible assumption) | exact Below.refl _ _ | assumption | (apply btrans0; rotate_left; assumption) | (apply btrans; rotate_left; assumption) | (simp; done) | omega | (simp; omega)))⟩
          subst c0
          obtain ⟨⟨U, G⟩, hpr⟩ : ∃ q, prtS (P, Q) = q := ⟨_, rfl⟩
          have HPR := Lib.hid hpr
          by_cases g0 : G = 0
          case neg =>
            have g1 : (G != 0) = true := by rw [bne_iff_ne]; exact g0
            have HE : Hid (∀ n d : Int, chk (n, d) = 0 → txt n d ≠ s) := Lib.hid (fun n d h ht => by
              have := HNO.out n d h ht
              simp only [Prod.mk.injEq, and_true] at this
              rw [this.1, this.2, prtS_ok h] at hpr
              exact g0 (by simp only [Prod.mk.injEq] at hpr; exact hpr.2.symm))
            clear g0 hpr
            go_wp2_with fail
            refine (new_any (p0 : Int) 1 P Q 0 _ (by omega) (by omega) (by omega) (by omega) HNW.out).mono ?_
            rintro e w2 ⟨rfl, hb2⟩
            have hB2 : Below w.heap.size w w2 := (by repeat' (first | (with_reducible refine bset ?_ ?_) | (with_reducible exact Below.refl _ _) | (with_reducible assumption) | (with_reducible refine bdrewN ?_ _) | (with_reducible refine bdrew ?_) | (with_reducible refine balloc0 ?_) | (with_reducible refine balloc ?_ ?_) | (with_reducible apply btrans0; rotate_left; with_reducible assumption) | (with_reducible apply btrans; rotate_left; with_reducible assumption) | exact Below.refl _ _ | assumption | (apply btrans0; rotate_left; assumption) | (apply btrans; rotate_left; assumption) | (simp; done) | omega | (simp; omega)))
            have A2 : w2.heap[w.heap.size]? = some (.cells #[.int .i64 0, .int .i64 0] 23 (0, 0)) := (hb2.block _ (by simp; omega)).trans ((Below.heap_alloc _ _ _ (by simp)).trans heap_new)
            have ca2 := fun o => cellB A2 o
            have fa2 := fun o => frozenB A2 o
            have HA2 := Lib.hid A2
            clear A2
            have z2 : w.heap.size + 1 < w2.heap.size := by have := hb2.size; simp at this; omega
            have z2a : w.heap.size < w2.heap.size := by omega
            clear hb2
            go_wp2_with fail
            refine (print_any P Q _ (by omega) (by omega) (by omega) (by omega) (hT.stays (by repeat' (first | (with_reducible refine bset ?_ ?_) | (with_reducible exact Below.refl _ _) | (with_reducible assumption) | (with_reducible refine bdrewN ?_ _) | (with_reducible refine bdrew ?_) | (with_reducible refine balloc0 ?_) | (with_reducible refine balloc ?_ ?_) | (with_reducible apply btrans0; rotate_left; with_reducible assumption) | (with_reducible apply btrans; rotate_left; with_reducible assumption) | exact Below.refl _ _ | assumption | (apply btrans0; rotate_left; assumption) | (apply btrans; rotate_left; assumption) | (simp; done) | omega | (simp; omega))))).mono ?_
            unfold PrtPost
            rw [HPR.out]
            rintro e w3 ⟨rfl, hb3⟩
            have hB3 : Below w.heap.size w w3 := (by repeat' (first | (with_reducible refine bset ?_ ?_) | (with_reducible exact Below.refl _ _) | (with_reducible assumption) | (with_reducible refine bdrewN ?_ _) | (with_reducible refine bdrew ?_) | (with_reducible refine balloc0 ?_) | (with_reducible refine balloc ?_ ?_) | (with_reducible apply btrans0; rotate_left; with_reducible assumption) | (with_reducible apply btrans; rotate_left; with_reducible assumption) | exact Below.refl _ _ | assumption | (apply btrans0; rotate_left; assumption) | (apply btrans; rotate_left; assumption) | (simp; done) | omega | (simp; omega)))
            have A3 := (hb3.block w.heap.size (by simp; omega)).trans ((Below.heap_alloc _ _ _ z2a).trans HA2.out)
            have X3 : w3.heap[w2.heap.size]? = some (.cells #[.int .i64 P, .int .i64 Q] 23 (0, 0)) := (hb3.block _ (by simp)).trans heap_new
            clear ca2 fa2
            have ca3 := fun o => cellB A3 o
            have fa3 := fun o => frozenB A3 o
            have cx3 := fun o => cellB X3 o
            clear A3 X3
            have z3 : w2.heap.size < w3.heap.size := by have := hb3.size; simp at this; omega
            have z3a : w.heap.size < w3.heap.size := by omega
            go_wp2_with fail
            (try rw [Exit.noGoto_ret])
            refine bodyPost_ret (v := .tuple #[.agg #[.int .i64 0, .int .i64 0], .int .i64 3]) (by simp [results, Tryd.results8, go_sem, World.cell?_setCell_same', ca3, cx3, z3a, z3]) rfl ?_
            unfold ParPost
            exact ⟨0, 0, 3, rfl, .inr ⟨rfl, rfl, HE.out⟩, (by repeat' (first | (with_reducible refine bset ?_ ?_) | (with_reducible exact Below.refl _ _) | (with_reducible assumption) | (with_reducible refine bdrewN ?_ _) | (with_reducible refine bdrew ?_) | (with_reducible refine balloc0 ?_) | (with_reducible refine balloc ?_ ?_) | (with_reducible apply btrans0; rotate_left; with_reducible assumption) | (with_reducible apply btrans; rotate_left; with_reducible assumption) | exact Below.refl _ _ | assumption | (apply btrans0; rotate_left; assumption) | (apply btrans; rotate_left; assumption) | (simp; done) | omega | (simp; omega)))⟩
          subst g0
          obtain ⟨q1, q2⟩ := prtS_zero (show (prtS (P, Q)).2 = 0 by rw [hpr])
          rw [hpr] at q2
          by_cases u0 : U = s
          case neg =>
            have u1 : (U == s) = false := beq_eq_false_iff_ne.2 u0
            have HE : Hid (∀ n d : Int, chk (n, d) = 0 → txt n d ≠ s) := Lib.hid (fun n d h ht => by
              have := HNO.out n d h ht
              simp only [Prod.mk.injEq, and_true] at this
              simp only at q2
              rw [this.1, this.2, ht] at q2
              exact u0 q2)
            clear hpr q1 q2
            go_wp2_with fail
            refine (new_any (p0 : Int) 1 P Q 0 _ (by omega) (by omega) (by omega) (by omega) HNW.out).mono ?_
            rintro e w2 ⟨rfl, hb2⟩
            have hB2 : Below w.heap.size w w2 := (by repeat' (first | (with_reducible refine bset ?_ ?_) | (with_reducible exact Below.refl _ _) | (with_reducible assumption) | (with_reducible refine bdrewN ?_ _) | (with_reducible refine bdrew ?_) | (with_reducible refine balloc0 ?_) | (with_reducible refine balloc ?_ ?_) | (with_reducible apply btrans0; rotate_left; with_reducible assumption) | (with_reducible apply btrans; rotate_left; with_reducible assumption) | exact Below.refl _ _ | assumption | (apply btrans0; rotate_left; assumption) | (apply btrans; rotate_left; assumption) | (simp; done) | omega | (simp; omega)))
            have A2 : w2.heap[w.heap.size]? = some (.cells #[.int .i64 0, .int .i64 0] 23 (0, 0)) := (hb2.block _ (by simp; omega)).trans ((Below.heap_alloc _ _ _ (by simp)).trans heap_new)
            have ca2 := fun o => cellB A2 o
            have fa2 := fun o => frozenB A2 o
            have HA2 := Lib.hid A2
            clear A2
            have z2 : w.heap.size + 1 < w2.heap.size := by have := hb2.size; simp at this; omega
            have z2a : w.heap.size < w2.heap.size := by omega
            clear hb2
            go_wp2_with fail
            refine (print_any P Q _ (by omega) (by omega) (by omega) (by omega) (hT.stays (by repeat' (first | (with_reducible refine bset ?_ ?_) | (with_reducible exact Below.refl _ _) | (with_reducible assumption) | (with_reducible refine bdrewN ?_ _) | (with_reducible refine bdrew ?_) | (with_reducible refine balloc0 ?_) | (with_reducible refine balloc ?_ ?_) | (with_reducible apply btrans0; rotate_left; with_reducible assumption) | (with_reducible apply btrans; rotate_left; with_reducible assumption) | exact Below.refl _ _ | assumption | (apply btrans0; rotate_left; assumption) | (apply btrans; rotate_left; assumption) | (simp; done) | omega | (simp; omega))))).mono ?_
            unfold PrtPost
            rw [HPR.out]
            rintro e w3 ⟨rfl, hb3⟩
            have hB3 : Below w.heap.size w w3 := (by repeat' (first | (with_reducible refine bset ?_ ?_) | (with_reducible exact Below.refl _ _) | (with_reducible assumption) | (with_reducible refine bdrewN ?_ _) | (with_reducible refine bdrew ?_) | (with_reducible refine balloc0 ?_) | (with_reducible refine balloc ?_ ?_) | (with_reducible apply btrans0; rotate_left; with_reducible assumption) | (with_reducible apply btrans; rotate_left; with_reducible assumption) | exact Below.refl _ _ | assumption | (apply btrans0; rotate_left; assumption) | (apply btrans; rotate_left; assumption) | (simp; done) | omega | (simp; omega)))
            have A3 := (hb3.block w.heap.size (by simp; omega)).trans ((Below.heap_alloc _ _ _ z2a).trans HA2.out)
            have X3 : w3.heap[w2.heap.size]? = some (.cells #[.int .i64 P, .int .i64 Q] 23 (0, 0)) := (hb3.block _ (by simp)).trans heap_new
            clear ca2 fa2
            have ca3 := fun o => cellB A3 o
            have fa3 := fun o => frozenB A3 o
            have cx3 := fun o => cellB X3 o
            clear A3 X3
            have z3 : w2.heap.size < w3.heap.size := by have := hb3.size; simp at this; omega
            have z3a : w.heap.size < w3.heap.size := by omega
            go_wp2_with fail
            (try rw [Exit.noGoto_ret])
            refine bodyPost_ret (v := .tuple #[.agg #[.int .i64 0, .int .i64 0], .int .i64 3]) (by simp [results, Tryd.results8, go_sem, World.cell?_setCell_same', ca3, cx3, z3a, z3]) rfl ?_
            unfold ParPost
            exact ⟨0, 0, 3, rfl, .inr ⟨rfl, rfl, HE.out⟩, (by repeat' (first | (with_reducible refine bset ?_ ?_) | (with_reducible exact Below.refl _ _) | (with_reducible assumption) | (with_reducible refine bdrewN ?_ _) | (with_reducible refine bdrew ?_) | (with_reducible refine balloc0 ?_) | (with_reducible refine balloc ?_ ?_) | (with_reducible apply btrans0; rotate_left; with_reducible assumption) | (with_reducible apply btrans; rotate_left; with_reducible assumption) | exact Below.refl _ _ | assumption | (apply btrans0; rotate_left; assumption) | (apply btrans; rotate_left; assumption) | (simp; done) | omega | (simp; omega)))⟩
          subst u0
          have HQ : Hid (chk (P, Q) = 0 ∧ txt P Q = U) := Lib.hid ⟨q1, q2.symm⟩
          clear hpr q1 q2
          go_wp2_with fail
          refine (new_any (p0 : Int) 1 P Q 0 _ (by omega) (by omega) (by omega) (by omega) HNW.out).mono ?_
          rintro e w2 ⟨rfl, hb2⟩
          have hB2 : Below w.heap.size w w2 := (by repeat' (first | (with_reducible refine bset ?_ ?_) | (with_reducible exact Below.refl _ _) | (with_reducible assumption) | (with_reducible refine bdrewN ?_ _) | (with_reducible refine bdrew ?_) | (with_reducible refine balloc0 ?_) | (with_reducible refine balloc ?_ ?_) | (with_reducible apply btrans0; rotate_left; with_reducible assumption) | (with_reducible apply btrans; rotate_left; with_reducible assumption) | exact Below.refl _ _ | assumption | (apply btrans0; rotate_left; assumption) | (apply btrans; rotate_left; assumption) | (simp; done) | omega | (simp; omega)))
          have A2 : w2.heap[w.heap.size]? = some (.cells #[.int .i64 0, .int .i64 0] 23 (0, 0)) := (hb2.block _ (by simp; omega)).trans ((Below.heap_alloc _ _ _ (by simp)).trans heap_new)
          have ca2 := fun o => cellB A2 o
          have fa2 := fun o => frozenB A2 o
          have HA2 := Lib.hid A2
          clear A2
          have z2 : w.heap.size + 1 < w2.heap.size := by have := hb2.size; simp at this; omega
          have z2a : w.heap.size < w2.heap.size := by omega
          clear hb2
          go_wp2_with fail
          refine (print_any P Q _ (by omega) (by omega) (by omega) (by omega) (hT.stays (by repeat' (first | (with_reducible refine bset ?_ ?_) | (with_reducible exact Below.refl _ _) | (with_reducible assumption) | (with_reducible refine bdrewN ?_ _) | (with_reducible refine bdrew ?_) | (with_reducible refine balloc0 ?_) | (with_reducible refine balloc ?_ ?_) | (with_reducible apply btrans0; rotate_left; with_reducible assumption) | (with_reducible apply btrans; rotate_left; with_reducible assumption) | exact Below.refl _ _ | assumption | (apply btrans0; rotate_left; assumption) | (apply btrans; rotate_left; assumption) | (simp; done) | omega | (simp; omega))))).mono ?_
          unfold PrtPost
          rw [HPR.out]
          rintro e w3 ⟨rfl, hb3⟩
          have hB3 : Below w.heap.size w w3 := (by repeat' (first | (with_reducible refine bset ?_ ?_) | (with_reducible exact Below.refl _ _) | (with_reducible assumption) | (with_reducible refine bdrewN ?_ _) | (with_reducible refine bdrew ?_) | (with_reducible refine balloc0 ?_) | (with_reducible refine balloc ?_ ?_) | (with_reducible apply btrans0; rotate_left; with_reducible assumption) | (with_reducible apply btrans; rotate_left; with_reducible assumption) | exact Below.refl _ _ | assumption | (apply btrans0; rotate_left; assumption) | (apply btrans; rotate_left; assumption) | (simp; done) | omega | (simp; omega)))
          have A3 := (hb3.block w.heap.size (by simp; omega)).trans ((Below.heap_alloc _ _ _ z2a).trans HA2.out)
          have X3 : w3.heap[w2.heap.size]? = some (.cells #[.int .i64 P, .int .i64 Q] 23 (0, 0)) := (hb3.block _ (by simp)).trans heap_new
          clear ca2 fa2
          have ca3 := fun o => cellB A3 o
          have fa3 := fun o => frozenB A3 o
          have cx3 := fun o => cellB X3 o
          clear A3 X3
          have z3 : w2.heap.size < w3.heap.size := by have := hb3.size; simp at this; omega
          have z3a : w.heap.size < w3.heap.size := by omega
          go_wp2_with fail
          (try rw [Exit.noGoto_ret])
          refine bodyPost_ret (v := .tuple #[.agg #[.int .i64 P, .int .i64 Q], .int .i64 0]) (by simp [results, Tryd.results8, go_sem, World.cell?_setCell_same', ca3, cx3, z3a, z3]) rfl ?_
          unfold ParPost
          exact ⟨P, Q, 0, rfl, .inl ⟨rfl, HQ.out.1, HQ.out.2⟩, (by repeat' (first | (with_reducible refine bset ?_ ?_) | (with_reducible exact Below.refl _ _) | (with_reducible assumption) | (with_reducible refine bdrewN ?_ _) | (with_reducible refine bdrew ?_) | (with_reducible refine balloc0 ?_) | (with_reducible refine balloc ?_ ?_) | (with_reducible apply btrans0; rotate_left; with_reducible assumption) | (with_reducible apply btrans; rotate_left; with_reducible assumption) | exact Below.refl _ _ | assumption | (apply btrans0; rotate_left; assumption) | (apply btrans; rotate_left; assumption) | (simp; done) | omega | (simp; omega)))⟩
        · obtain rfl : t = 1 := by omega
          obtain rfl : ti = 1 := by omega
          clear hti t0
          obtain ⟨⟨⟨P, Q⟩, C⟩, hnw⟩ : ∃ q, newS (p0 : Int) (p1 : Int) = q := ⟨_, rfl⟩
          have HNW := Lib.hid hnw
          obtain ⟨b1, b2, b3, b4⟩ := newS_bd hnw
          have hno0 : ∀ n d : Int, chk (n, d) = 0 → txt n d = s → ((P, Q), C) = (((n, d), 0) : R2 × Int) := fun n d h ht => by
            obtain ⟨x, e1, e2⟩ := scan_comp h ht
            rw [HC.out] at e1 e2
            simp only at e1 e2
            rw [HX.out] at e1
            injection e1 with e1
            subst e1
            rw [← HNW.out]
            have e3 : ((p0 : Int), (p1 : Int)) = (n, d) := by rw [← e2]; rfl
            simp only [Prod.mk.injEq] at e3
            rw [e3.1, e3.2]
            exact newS_ok h
          clear hnw
          have HNO := Lib.hid hno0
          clear hno0
          by_cases c0 : C = 0
          case neg =>
            have c1 : (C != 0) = true := by rw [bne_iff_ne]; exact c0
            have HE : Hid (∀ n d : Int, chk (n, d) = 0 → txt n d ≠ s) := Lib.hid (fun n d h ht => c0 (by have := HNO.out n d h ht; simp only [Prod.mk.injEq] at this; exact this.2))
            clear c0
            go_wp2_with fail
            refine (new_any (p0 : Int) (p1 : Int) P Q C _ (by omega) (by omega) (by omega) (by omega) HNW.out).mono ?_
            rintro e w2 ⟨rfl, hb2⟩
            have hB2 : Below w.heap.size w w2 := (by repeat' (first | (with_reducible refine bset ?_ ?_) | (with_reducible exact Below.refl _ _) | (with_reducible assumption) | (with_reducible refine bdrewN ?_ _) | (with_reducible refine bdrew ?_) | (with_reducible refine balloc0 ?_) | (with_reducible refine balloc ?_ ?_) | (with_reducible apply btrans0; rotate_left; with_reducible assumption) | (with_reducible apply btrans; rotate_left; with_reducible assumption) | exact Below.refl _ _ | assumption | (apply btrans0; rotate_left; assumption) | (apply btrans; rotate_left; assumption) | (simp; done) | omega | (simp; omega)))
            have A2 : w2.heap[w.heap.size]? = some (.cells #[.int .i64 0, .int .i64 0] 23 (0, 0)) := (hb2.block _ (by simp; omega)).trans ((Below.heap_alloc _ _ _ (by simp)).trans heap_new)
            have ca2 := fun o => cellB A2 o
            have fa2 := fun o => frozenB A2 o
            have HA2 := Lib.hid A2
            clear A2
            have z2 : w.heap.size + 1 < w2.heap.size := by have := hb2.size; simp at this; omega
            have z2a : w.heap.size < w2.heap.size := by omega
            clear hb2
            go_wp2_with fail
            (try rw [Exit.noGoto_ret])
            refine bodyPost_ret (v := .tuple #[.agg #[.int .i64 0, .int .i64 0], .int .i64 3]) (by simp [results, Tryd.results8, go_sem, World.cell?_setCell_same', ca2, z2a]) rfl ?_
            unfold ParPost
            exact ⟨0, 0, 3, rfl, .inr ⟨rfl, rfl, HE.out⟩, (by repeat' (first | (with_reducible refine bset ?_ ?_) | (with_reducible exact Below.refl _ _) | (with_reducible assumption) | (with_reducible refine bdrewN ?_ _) | (with_reducible refine bdrew ?_) | (with_reducible refine balloc0 ?_) | (with_reducible refine balloc ?_ ?_) | (with_reducible apply btrans0; rotate_left; with_reducible assumption) | (with_reducible apply btrans; rotate_left; with_reducible assumption) | exact Below.refl _ _ | assumption | (apply btrans0; rotate_left; assumption) | (apply btrans; rotate_left; assumption) | (simp; done) | omega | (simp; omega)))⟩
          subst c0
          obtain ⟨⟨U, G⟩, hpr⟩ : ∃ q, prtS (P, Q) = q := ⟨_, rfl⟩
          have HPR := Lib.hid hpr
          by_cases g0 : G = 0
          case neg =>
            have g1 : (G != 0) = true := by rw [bne_iff_ne]; exact g0
            have HE : Hid (∀ n d : Int, chk (n, d) = 0 → txt n d ≠ s) := Lib.hid (fun n d h ht => by
              have := HNO.out n d h ht
              simp only [Prod.mk.injEq, and_true] at this
              rw [this.1, this.2, prtS_ok h] at hpr
              exact g0 (by simp only [Prod.mk.injEq] at hpr; exact hpr.2.symm))
            clear g0 hpr
            go_wp2_with fail
            refine (new_any (p0 : Int) (p1 : Int) P Q 0 _ (by omega) (by omega) (by omega) (by omega) HNW.out).mono ?_
            rintro e w2 ⟨rfl, hb2⟩
            have hB2 : Below w.heap.size w w2 := (by repeat' (first | (with_reducible refine bset ?_ ?_) | (with_reducible exact Below.refl _ _) | (with_reducible assumption) | (with_reducible refine bdrewN ?_ _) | (with_reducible refine bdrew ?_) | (with_reducible refine balloc0 ?_) | (with_reducible refine balloc ?_ ?_) | (with_reducible apply btrans0; rotate_left; with_reducible assumption) | (with_reducible apply btrans; rotate_left; with_reducible assumption) | exact Below.refl _ _ | assumption | (apply btrans0; rotate_left; assumption) | (apply btrans; rotate_left; assumption) | (simp; done) | omega | (simp; omega)))
            have A2 : w2.heap[w.heap.size]? = some (.cells #[.int .i64 0, .int .i64 0] 23 (0, 0)) := (hb2.block _ (by simp; omega)).trans ((Below.heap_alloc _ _ _ (by simp)).trans heap_new)
            have ca2 := fun o => cellB A2 o
            have fa2 := fun o => frozenB A2 o
            have HA2 := Lib.hid A2
            clear A2
            have z2 : w.heap.size + 1 < w2.heap.size := by have := hb2.size; simp at this; omega
            have z2a : w.heap.size < w2.heap.size := by omega
            clear hb2
            go_wp2_with fail
            refine (print_any P Q _ (by omega) (by omega) (by omega) (by omega) (hT.stays (by repeat' (first | (with_reducible refine bset ?_ ?_) | (with_reducible exact Below.refl _ _) | (with_reducible assumption) | (with_reducible refine bdrewN ?_ _) | (with_reducible refine bdrew ?_) | (with_reducible refine balloc0 ?_) | (with_reducible refine balloc ?_ ?_) | (with_reducible apply btrans0; rotate_left; with_reducible assumption) | (with_reducible apply btrans; rotate_left; with_reducible assumption) | exact Below.refl _ _ | assumption | (apply btrans0; rotate_left; assumption) | (apply btrans; rotate_left; assumption) | (simp; done) | omega | (simp; omega))))).mono ?_
            unfold PrtPost
            rw [HPR.out]
            rintro e w3 ⟨rfl, hb3⟩
            have hB3 : Below w.heap.size w w3 := (by repeat' (first | (with_reducible refine bset ?_ ?_) | (with_reducible exact Below.refl _ _) | (with_reducible assumption) | (with_reducible refine bdrewN ?_ _) | (with_reducible refine bdrew ?_) | (with_reducible refine balloc0 ?_) | (with_reducible refine balloc ?_ ?_) | (with_reducible apply btrans0; rotate_left; with_reducible assumption) | (with_reducible apply btrans; rotate_left; with_reducible assumption) | exact Below.refl _ _ | assumption | (apply btrans0; rotate_left; assumption) | (apply btrans; rotate_left; assumption) | (simp; done) | omega | (simp; omega)))
            have A3 := (hb3.block w.heap.size (by simp; omega)).trans ((Below.heap_alloc _ _ _ z2a).trans HA2.out)
            have X3 : w3.heap[w2.heap.size]? = some (.cells #[.int .i64 P, .int .i64 Q] 23 (0, 0)) := (hb3.block _ (by simp)).trans heap_new
            clear ca2 fa2
            have ca3 := fun o => cellB A3 o
            have fa3 := fun o => frozenB A3 o
            have cx3 := fun o => cellB X3 o
            clear A3 X3
            have z3 : w2.heap.size < w3.heap.size := by have := hb3.size; simp at this; omega
            have z3a : w.heap.size < w3.heap.size := by omega
            go_wp2_with fail
            (try rw [Exit.noGoto_ret])
            refine bodyPost_ret (v := .tuple #[.agg #[.int .i64 0, .int .i64 0], .int .i64 3]) (by simp [results, Tryd.results8, go_sem, World.cell?_setCell_same', ca3, cx3, z3a, z3]) rfl ?_
            unfold ParPost
            exact ⟨0, 0, 3, rfl, .inr ⟨rfl, rfl, HE.out⟩, (by repeat' (first | (with_reducible refine bset ?_ ?_) | (with_reducible exact Below.refl _ _) | (with_reducible assumption) | (with_reducible refine bdrewN ?_ _) | (with_reducible refine bdrew ?_) | (with_reducible refine balloc0 ?_) | (with_reducible refine balloc ?_ ?_) | (with_reducible apply btrans0; rotate_left; with_reducible assumption) | (with_reducible apply btrans; rotate_left; with_reducible assumption) | exact Below.refl _ _ | assumption | (apply btrans0; rotate_left; assumption) | (apply btrans; rotate_left; assumption) | (simp; done) | omega | (simp; omega)))⟩
          subst g0
          obtain ⟨q1, q2⟩ := prtS_zero (show (prtS (P, Q)).2 = 0 by rw [hpr])
          rw [hpr] at q2
          by_cases u0 : U = s
          case neg =>
            have u1 : (U == s) = false := beq_eq_false_iff_ne.2 u0
            have HE : Hid (∀ n d : Int, chk (n, d) = 0 → txt n d ≠ s) := Lib.hid (fun n d h ht => by
              have := HNO.out n d h ht
              simp only [Prod.mk.injEq, and_true] at this
              simp only at q2
              rw [this.1, this.2, ht] at q2
              exact u0 q2)
            clear hpr q1 q2
            go_wp2_with fail
            refine (new_any (p0 : Int) (p1 : Int) P Q 0 _ (by omega) (by omega) (by omega) (by omega) HNW.out).mono ?_
            rintro e w2 ⟨rfl, hb2⟩
            have hB2 : Below w.heap.size w w2 := (by repeat' (first | (with_reducible refine bset ?_ ?_) | (with_reducible exact Below.refl _ _) | (with_reducible assumption) | (with_reducible refine bdrewN ?_ _) | (with_reducible refine bdrew ?_) | (with_reducible refine balloc0 ?_) | (with_reducible refine balloc ?_ ?_) | (with_reducible apply btrans0; rotate_left; with_reducible assumption) | (with_reducible apply btrans; rotate_left; with_reducible assumption) | exact Below.refl _ _ | assumption | (apply btrans0; rotate_left; assumption) | (apply btrans; rotate_left; assumption) | (simp; done) | omega | (simp; omega)))
            have A2 : w2.heap[w.heap.size]? = some (.cells #[.int .i64 0, .int .i64 0] 23 (0, 0)) := (hb2.block _ (by simp; omega)).trans ((Below.heap_alloc _ _ _ (by simp)).trans heap_new)
            have ca2 := fun o => cellB A2 o
            have fa2 := fun o => frozenB A2 o
            have HA2 := Lib.hid A2
            clear A2
            have z2 : w.heap.size + 1 < w2.heap.size := by have := hb2.size; simp at this; omega
            have z2a : w.heap.size < w2.heap.size := by omega
            clear hb2
            go_wp2_with fail
            refine (print_any P Q _ (by omega) (by omega) (by omega) (by omega) (hT.stays (by repeat' (first | (with_reducible refine bset ?_ ?_) | (with_reducible exact Below.refl _ _) | (with_reducible assumption) | (with_reducible refine bdrewN ?_ _) | (with_reducible refine bdrew ?_) | (with_reducible refine balloc0 ?_) | (with_reducible refine balloc ?_ ?_) | (with_reducible apply btrans0; rotate_left; with_reducible assumption) | (with_reducible apply btrans; rotate_left; with_reducible assumption) | exact Below.refl _ _ | assumption | (apply btrans0; rotate_left; assumption) | (apply btrans; rotate_left; assumption) | (simp; done) | omega | (simp; omega))))).mono ?_
            unfold PrtPost
            rw [HPR.out]
            rintro e w3 ⟨rfl, hb3⟩
            have hB3 : Below w.heap.size w w3 := (by repeat' (first | (with_reducible refine bset ?_ ?_) | (with_reducible exact Below.refl _ _) | (with_reducible assumption) | (with_reducible refine bdrewN ?_ _) | (with_reducible refine bdrew ?_) | (with_reducible refine balloc0 ?_) | (with_reducible refine balloc ?_ ?_) | (with_reducible apply btrans0; rotate_left; with_reducible assumption) | (with_reducible apply btrans; rotate_left; with_reducible assumption) | exact Below.refl _ _ | assumption | (apply btrans0; rotate_left; assumption) | (apply btrans; rotate_left; assumption) | (simp; done) | omega | (simp; omega)))
            have A3 := (hb3.block w.heap.size (by simp; omega)).trans ((Below.heap_alloc _ _ _ z2a).trans HA2.out)
            have X3 : w3.heap[w2.heap.size]? = some (.cells #[.int .i64 P, .int .i64 Q] 23 (0, 0)) := (hb3.block _ (by simp)).trans heap_new
            clear ca2 fa2
            have ca3 := fun o => cellB A3 o
            have fa3 := fun o => frozenB A3 o
            have cx3 := fun o => cellB X3 o
            clear A3 X3
            have z3 : w2.heap.size < w3.heap.size := by have := hb3.size; simp at this; omega
            have z3a : w.heap.size < w3.heap.size := by omega
            go_wp2_with fail
            (try rw [Exit.noGoto_ret])
            refine bodyPost_ret (v := .tuple #[.agg #[.int .i64 0, .int .i64 0], .int .i64 3]) (by simp [results, Tryd.results8, go_sem, World.cell?_setCell_same', ca3, cx3, z3a, z3]) rfl ?_
            unfold ParPost
            exact ⟨0, 0, 3, rfl, .inr ⟨rfl, rfl, HE.out⟩, (by repeat' (first | (with_reducible refine bset ?_ ?_) | (with_reducible exact Below.refl _ _) | (with_reducible assumption) | (with_reducible refine bdrewN ?_ _) | (with_reducible refine bdrew ?_) | (with_reducible refine balloc0 ?_) | (with_reducible refine balloc ?_ ?_) | (with_reducible apply btrans0; rotate_left; with_reducible assumption) | (with_reducible apply btrans; rotate_left; with_reducible assumption) | exact Below.refl _ _ | assumption | (apply btrans0; rotate_left; assumption) | (apply btrans; rotate_left; assumption) | (simp; done) | omega | (simp; omega)))⟩
          subst u0
          have HQ : Hid (chk (P, Q) = 0 ∧ txt P Q = U) := Lib.hid ⟨q1, q2.symm⟩
          clear hpr q1 q2
          go_wp2_with fail
          refine (new_any (p0 : Int) (p1 : Int) P Q 0 _ (by omega) (by omega) (by omega) (by omega) HNW.out).mono ?_
          rintro e w2 ⟨rfl, hb2⟩
          have hB2 : Below w.heap.size w w2 := (by repeat' (first | (with_reducible refine bset ?_ ?_) | (with_reducible exact Below.refl _ _) | (with_reducible assumption) | (with_reducible refine bdrewN ?_ _) | (with_reducible refine bdrew ?_) | (with_reducible refine balloc0 ?_) | (with_reducible refine balloc ?_ ?_) | (with_reducible apply btrans0; rotate_left; with_reducible assumption) | (with_reducible apply btrans; rotate_left; with_reducible assumption) | exact Below.refl _ _ | assumption | (apply btrans0; rotate_left; assumption) | (apply btrans; rotate_left; assumption) | (simp; done) | omega | (simp; omega)))
          have A2 : w2.heap[w.heap.size]? = some (.cells #[.int .i64 0, .int .i64 0] 23 (0, 0)) := (hb2.block _ (by simp; omega)).trans ((Below.heap_alloc _ _ _ (by simp)).trans heap_new)
          have ca2 := fun o => cellB A2 o
          have fa2 := fun o => frozenB A2 o
          have HA2 := Lib.hid A2
          clear A2
          have z2 : w.heap.size + 1 < w2.heap.size := by have := hb2.size; simp at this; omega
          have z2a : w.heap.size < w2.heap.size := by omega
          clear hb2
          go_wp2_with fail
          refine (print_any P Q _ (by omega) (by omega) (by omega) (by omega) (hT.stays (by repeat' (first | (with_reducible refine bset ?_ ?_) | (with_reducible exact Below.refl _ _) | (with_reducible assumption) | (with_reducible refine bdrewN ?_ _) | (with_reducible refine bdrew ?_) | (with_reducible refine balloc0 ?_) | (with_reducible refine balloc ?_ ?_) | (with_reducible apply btrans0; rotate_left; with_reducible assumption) | (with_reducible apply btrans; rotate_left; with_reducible assumption) | exact Below.refl _ _ | assumption | (apply btrans0; rotate_left; assumption) | (apply btrans; rotate_left; assumption) | (simp; done) | omega | (simp; omega))))).mono ?_
          unfold PrtPost
          rw [HPR.out]
          rintro e w3 ⟨rfl, hb3⟩
          have hB3 : Below w.heap.size w w3 := (by repeat' (first | (with_reducible refine bset ?_ ?_) | (with_reducible exact Below.refl _ _) | (with_reducible assumption) | (with_reducible refine bdrewN ?_ _) | (with_reducible refine bdrew ?_) | (with_reducible refine balloc0 ?_) | (with_reducible refine balloc ?_ ?_) | (with_reducible apply btrans0; rotate_left; with_reducible assumption) | (with_reducible apply btrans; rotate_left; with_reducible assumption) | exact Below.refl _ _ | assumption | (apply btrans0; rotate_left; assumption) | (apply btrans; rotate_left; assumption) | (simp; done) | omega | (simp; omega)))
          have A3 := (hb3.block w.heap.size (by simp; omega)).trans ((Below.heap_alloc _ _ _ z2a).trans HA2.out)
          have X3 : w3.heap[w2.heap.size]? = some (.cells #[.int .i64 P, .int .i64 Q] 23 (0, 0)) := (hb3.block _ (by simp)).trans heap_new
          clear ca2 fa2
          have ca3 := fun o => cellB A3 o
          have fa3 := fun o => frozenB A3 o
          have cx3 := fun o => cellB X3 o
          clear A3 X3
          have z3 : w2.heap.size < w3.heap.size := by have := hb3.size; simp at this; omega
          have z3a : w.heap.size < w3.heap.size := by omega
          go_wp2_with fail
          (try rw [Exit.noGoto_ret])
          refine bodyPost_ret (v := .tuple #[.agg #[.int .i64 P, .int .i64 Q], .int .i64 0]) (by simp [results, Tryd.results8, go_sem, World.cell?_setCell_same', ca3, cx3, z3a, z3]) rfl ?_
          unfold ParPost
          exact ⟨P, Q, 0, rfl, .inl ⟨rfl, HQ.out.1, HQ.out.2⟩, (by repeat' (first | (with_reducible refine bset ?_ ?_) | (with_reducible exact Below.refl _ _) | (with_reducible assumption) | (with_reducible refine bdrewN ?_ _) | (with_reducible refine bdrew ?_) | (with_reducible refine balloc0 ?_) | (with_reducible refine balloc ?_ ?_) | (with_reducible apply btrans0; rotate_left; with_reducible assumption) | (with_reducible apply btrans; rotate_left; with_reducible assumption) | exact Below.refl _ _ | assumption | (apply btrans0; rotate_left; assumption) | (apply btrans; rotate_left; assumption) | (simp; done) | omega | (simp; omega)))⟩
end Go.Proofs.YtfkdhcfedjbkfaaDoor
