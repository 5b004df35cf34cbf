/- Layer 14, the reference: visited; its row is a new one. -/
import Derived.Test.YthgokfceakbjlaaIc
set_option linter.unusedVariables false
set_option linter.unusedSimpArgs false
namespace Go.Proofs.Ythgokfceakbjlaa
open Go Go.RowKit
attribute [local go_sem] B_getElem B_size B_app B_extract B_get B_toList

theorem RInts.fresh {w W : World} {N M A : Nat} {v : Value} {l : List Int} (h : RInts w N v l) (hr : RFrom A v) (k : ∀ b o, A ≤ b → b < N → W.cell? ⟨b, o, none⟩ = w.cell? ⟨b, o, none⟩) (hM : N ≤ M) : RInts W M v l := by
  obtain ⟨a, c, rfl, h1, h2, h3, h4⟩ := h
  refine ⟨a, c, rfl, h1, h2, h3, fun hp => ?_⟩
  obtain ⟨b, o, e, hb, hi⟩ := h4 hp
  subst e
  have hB := hr _ _ _ rfl
  exact ⟨b, o, rfl, by omega, fun i x hx => (k b _ hB hb).trans (hi i x hx)⟩
def RLFrom (s : List UInt8) (w : World) (e : Ending) (w' : World) : Prop :=
  ∃ (v : Value) (l : List Int) (k E : Int), e = .returned (.tuple #[v, .int .i64 k, .int .i64 E]) ∧ Below w.heap.size w w' ∧ RInts w' w'.heap.size v l ∧ RFrom w.heap.size v ∧ ((E ≠ 0 ∧ l = [] ∧ k = 0 ∧ lstR s = none) ∨ (E = 0 ∧ ∃ m : Nat, k = m ∧ lstR s = some (l, m)))
def GetFrom (r : List Int × Int) (w : World) (e : Ending) (w' : World) : Prop := ∃ v, e = .returned (.tuple #[v, .int .i64 r.2]) ∧ Below w.heap.size w w' ∧ RInts w' w'.heap.size v r.1 ∧ RFrom w.heap.size v
set_option maxRecDepth 100000 in
set_option maxHeartbeats 8000000 in
theorem rreadlist_from (s : List UInt8) (w : World) (hs : s.length ≤ 1000000) :
    Calls Try.prog 64 #[.string (B s)] w (RLFrom s w) := by
  obtain ⟨⟨n1, k1, e1⟩, h1⟩ : ∃ x, lenS s = x := ⟨_, rfl⟩
  have H1 := Lib.hid h1
  obtain ⟨i0, hin, hz0, hz1, hz2⟩ := info_parts infoInt
  by_cases he : e1 = 0
  case neg =>
    have HNO : Hid (lstR s = none) := Lib.hid (lstR_none h1 he)
    have he2 : (e1 != 0) = true := by rw [bne_iff_ne]; exact he
    have HE := Lib.hid he
    clear h1 he
    go_enter Try.func64, Try.ntmps64
    go_wp2_with fail
    refine (rlength_any s n1 k1 e1 _ (by omega) H1.out).mono ?_
    rintro e w1 ⟨rfl, rfl⟩
    go_wp2
    go_ret3
    unfold RLFrom
    exact ⟨_, [], 0, e1, rfl, (by repeat' (first | with_reducible (first | refine bset ?_ ?_ | exact Below.refl _ _ | assumption | refine bdrewN ?_ _ | refine bdrew ?_ | refine balloc0 ?_ | refine balloc ?_ ?_ | (apply btrans0; rotate_left; assumption) | (apply btrans; rotate_left; assumption)) | exact Below.refl _ _ | assumption | (apply btrans0; rotate_left; assumption) | (apply btrans; rotate_left; assumption) | (simp; done) | omega | (simp; omega))), RInts.lit0 _ _ _, RFrom.lit0 (by first | exact Nat.le_refl _ | omega | (simp; done) | (simp; omega) | exact Below.size (B := w.heap.size) (by repeat' (first | with_reducible (first | refine bset ?_ ?_ | exact Below.refl _ _ | assumption | refine bdrewN ?_ _ | refine bdrew ?_ | refine balloc0 ?_ | refine balloc ?_ ?_ | (apply btrans0; rotate_left; assumption) | (apply btrans; rotate_left; assumption)) | exact Below.refl _ _ | assumption | (apply btrans0; rotate_left; assumption) | (apply btrans; rotate_left; assumption) | (simp; done) | omega | (simp; omega)))), .inl ⟨HE.out, rfl, rfl, HNO.out⟩⟩
  subst he
  obtain ⟨q1, q2, q3, q4, q5⟩ := (lenS_ok h1).1 rfl
  obtain ⟨N, rfl⟩ : ∃ N : Nat, n1 = N := ⟨n1.toNat, by omega⟩
  obtain ⟨K, rfl⟩ : ∃ K : Nat, k1 = K := ⟨k1.toNat, by omega⟩
  have hKs : K ≤ s.length := by omega
  have hN : N ≤ 65536 := by omega
  obtain ⟨R, hR⟩ : ∃ q, rdNs N (s.drop K) = q := ⟨_, rfl⟩
  have HNone : Hid (R = none → lstR s = none) := Lib.hid (fun h => lstR_none2 h1 (hR.trans h))
  have HSome : Hid (∀ l m, R = some (l, m) → lstR s = some (l, K + m)) := Lib.hid (fun l m h => lstR_of h1 (hR.trans h))
  have HR0 : Hid (moreN [] (K - K) (rdNs (N - 0) (s.drop K)) = R) := Lib.hid (by rw [← hR, Nat.sub_self, Nat.sub_zero]; cases rdNs N (s.drop K) with | none => rfl | some r => simp [moreN])
  clear h1 hR q1 q2 q3 q4 q5
  go_enter Try.func64, Try.ntmps64
  go_wp2_with fail
  refine (rlength_any s N K 0 _ (by omega) H1.out).mono ?_
  rintro e w1 ⟨rfl, rfl⟩
  go_wp2
  go_loopw [8, 9, 6] (fun o i a wr => ∃ (j p : Nat) (l : List Int), i = .int .i64 j ∧ a = .int .i64 (p : Int) ∧ j ≤ N ∧ l.length = j ∧ K ≤ p ∧ p ≤ s.length ∧ wr.ownsRow w.heap.size 3 1 o j (ints l) ∧ Hid (moreN l (p - K) (rdNs (N - j) (s.drop p)) = R) ∧ Below w.heap.size w wr) (fun _ i _ _ => N - (intOf i).toNat)
  case atStart => exact ⟨0, K, [], rfl, rfl, by omega, rfl, Nat.le_refl _, hKs, World.ownsRow_made w #[] 0 (Nat.le_refl _) (by simp) rfl, HR0, balloc0 (Below.refl _ _)⟩
  case round =>
    obtain ⟨j, p, l, rfl, rfl, hj, hl, hp0, hp, hown, HM, hB⟩ := hrel
    have HLN := Lib.hid hl
    have zr : w.heap.size ≤ wr.heap.size := hB.size
    have i0' : (0 : Int) ≤ (p : Int) := by omega
    have i1 : (p : Int) ≤ (s.length : Int) := by omega
    have i3 : (s.drop p).take (s.length - p) = s.drop p := List.take_of_length_le (by rw [List.length_drop]; exact Nat.le_refl _)
    have hld : (s.drop p).length ≤ 1000000000 := by rw [List.length_drop]; omega
    have k0' : (0 : Int) ≤ (j : Int) := by omega
    clear hl
    by_cases hlt : j < N
    · obtain ⟨⟨n, kk, e⟩, hr⟩ : ∃ r, readS (s.drop p) = r := ⟨_, rfl⟩
      have hm := HM.out
      rw [show N - j = N - (j + 1) + 1 by omega] at hm
      have hok2 := readS_ok hr
      rw [List.length_drop] at hok2
      have k1 : (j : Int) < (N : Int) := by omega
      by_cases he : e = 0
      case neg =>
        rw [moreN_bad hr he] at hm
        have HNo : Hid (lstR s = none) := Lib.hid (HNone.out hm.symm)
        have he2 : (e != 0) = true := by rw [bne_iff_ne]; exact he
        have HE := Lib.hid he
        have HR := Lib.hid hr
        clear he hm hr hok2
        go_wp2_with fail
        refine (rreadint_any (s.drop p) n kk e _ (by omega) HR.out).mono ?_
        rintro e' w5 ⟨rfl, rfl⟩
        go_wp2
        go_ret3
        unfold RLFrom
        exact ⟨_, [], 0, e, rfl, (by repeat' (first | with_reducible (first | refine bset ?_ ?_ | exact Below.refl _ _ | assumption | refine bdrewN ?_ _ | refine bdrew ?_ | refine balloc0 ?_ | refine balloc ?_ ?_ | (apply btrans0; rotate_left; assumption) | (apply btrans; rotate_left; assumption)) | exact Below.refl _ _ | assumption | (apply btrans0; rotate_left; assumption) | (apply btrans; rotate_left; assumption) | (simp; done) | omega | (simp; omega))), RInts.lit0 _ _ _, RFrom.lit0 (by first | exact Nat.le_refl _ | omega | (simp; done) | (simp; omega) | exact Below.size (B := w.heap.size) (by repeat' (first | with_reducible (first | refine bset ?_ ?_ | exact Below.refl _ _ | assumption | refine bdrewN ?_ _ | refine bdrew ?_ | refine balloc0 ?_ | refine balloc ?_ ?_ | (apply btrans0; rotate_left; assumption) | (apply btrans; rotate_left; assumption)) | exact Below.refl _ _ | assumption | (apply btrans0; rotate_left; assumption) | (apply btrans; rotate_left; assumption) | (simp; done) | omega | (simp; omega)))), .inl ⟨HE.out, rfl, rfl, HNo.out⟩⟩
      subst he
      rw [moreN_step hr] at hm
      obtain ⟨q1, q2, q3, _, _⟩ := hok2.1 rfl
      obtain ⟨m, rfl⟩ : ∃ m : Nat, kk = m := ⟨kk.toNat, by omega⟩
      rw [Int.toNat_natCast, List.drop_drop] at hm
      have HR := Lib.hid hr
      have HMM := Lib.hid hm
      have hw : IntKind.i64.wrap ((p : Int) + (m : Int)) = ((p + m : Nat) : Int) := by rw [IntKind.wrap_i64]; omega
      clear hm hr hok2
      go_wp2_with fail
      refine (rreadint_any (s.drop p) n m 0 _ (by omega) HR.out).mono ?_
      rintro e' w5 ⟨rfl, rfl⟩
      go_wp2_with (at_builtin; refine wpList_append_own _ rfl _ _ _ rfl w.heap.size 3 i0 _ 1 8 Try.underlying36 hin hz0 hz1 hz2 rfl (by omega) _ _ _ rfl (hown.alloc _) ⟨wr.heap.size, 0, none⟩ 1 1 [.int .i64 n] rfl rfl (news_one heap_new) (by simp [Value.oneCell']) (by simp only [maxLen]; omega) (by omega) (by simp; omega) ?_; intro v' w6 hO6 hg6 _)
      have hB6 : Below w.heap.size w w6 := (balloc hB (by omega)).grown hg6 (by simp; omega) (fun q hq => (hown.lt q hq).1)
      go_roundw
      case rel => exact ⟨j + 1, p + m, l ++ [n], by go_num, by go_num, by omega, by have := HLN.out; simp; omega, by omega, by omega, by simpa [ints] using hO6, Lib.hid (by rw [← HMM.out]; congr 1; omega), hB6⟩
      case measure => simp [intOf]; omega
    · obtain rfl : j = N := by omega
      have hm := HM.out
      rw [Nat.sub_self] at hm
      have HSm : Hid (lstR s = some (l, p)) := Lib.hid (by
        have := HSome.out l (p - K) (by rw [← hm]; simp [rdNs, moreN])
        rwa [show K + (p - K) = p by omega] at this)
      have hri := RInts.of_own hown
      have HFR := Lib.hid (RFrom.of_own hown)
      clear hm HM
      have HRI := Lib.hid hri
      clear hri
      go_wp2
      go_ret3
      unfold RLFrom
      exact ⟨_, l, p, 0, rfl, (by repeat' (first | with_reducible (first | refine bset ?_ ?_ | exact Below.refl _ _ | assumption | refine bdrewN ?_ _ | refine bdrew ?_ | refine balloc0 ?_ | refine balloc ?_ ?_ | (apply btrans0; rotate_left; assumption) | (apply btrans; rotate_left; assumption)) | exact Below.refl _ _ | assumption | (apply btrans0; rotate_left; assumption) | (apply btrans; rotate_left; assumption) | (simp; done) | omega | (simp; omega))), HRI.out, HFR.out, .inr ⟨rfl, p, rfl, HSm.out⟩⟩
set_option maxRecDepth 100000 in
set_option maxHeartbeats 8000000 in
theorem rvis0_from (b : Bun) (u : Value) (w : World) (h : RBlks w w.heap.size u b.blocks) (hv : chkE b = 0) :
    Calls Try.prog 35 #[.agg (bunC b u).toArray] w (GetFrom (getS b 3) w) := by
  have HR := Lib.hid h
  obtain ⟨a, c, rfl, h1, h2, h3, h4⟩ := h
  clear h1 h2 h3 h4
  obtain ⟨⟨s, E⟩, hda⟩ : ∃ q, dataS b 3 = q := ⟨_, rfl⟩
  have HDA := Lib.hid hda
  have hga := getS_data hv hda
  rcases hga with ⟨rfl, hg⟩ | ⟨rfl, hs, hg⟩
  · rw [hg]
    clear hda hg hv
    go_enter Try.func35, Try.ntmps35
    simp only [bunC]
    go_wp2_with fail
    refine (rdata_any b _ 3 _ (HR.out.below' (by repeat' (first | with_reducible (first | refine bset ?_ ?_ | exact Below.refl _ _ | assumption | refine bdrewN ?_ _ | refine bdrew ?_ | refine balloc0 ?_ | refine balloc ?_ ?_ | (apply btrans0; rotate_left; assumption) | (apply btrans; rotate_left; assumption)) | exact Below.refl _ _ | assumption | (apply btrans0; rotate_left; assumption) | (apply btrans; rotate_left; assumption) | (simp; done) | omega | (simp; omega))))).mono ?_
    rw [HDA.out]
    simp only
    rintro e w1 ⟨rfl, hb1⟩
    have hB1 : Below w.heap.size w w1 := (by repeat' (first | with_reducible (first | refine bset ?_ ?_ | exact Below.refl _ _ | assumption | refine bdrewN ?_ _ | refine bdrew ?_ | refine balloc0 ?_ | refine balloc ?_ ?_ | (apply btrans0; rotate_left; assumption) | (apply btrans; rotate_left; assumption)) | exact Below.refl _ _ | assumption | (apply btrans0; rotate_left; assumption) | (apply btrans; rotate_left; assumption) | (simp; done) | omega | (simp; omega)))
    clear hb1
    go_wp2
    go_ret2
    unfold GetFrom
    exact ⟨_, rfl, (by repeat' (first | with_reducible (first | refine bset ?_ ?_ | exact Below.refl _ _ | assumption | refine bdrewN ?_ _ | refine bdrew ?_ | refine balloc0 ?_ | refine balloc ?_ ?_ | (apply btrans0; rotate_left; assumption) | (apply btrans; rotate_left; assumption)) | exact Below.refl _ _ | assumption | (apply btrans0; rotate_left; assumption) | (apply btrans; rotate_left; assumption) | (simp; done) | omega | (simp; omega))), RInts.lit0 _ _ _, RFrom.lit0 (by first | exact Nat.le_refl _ | omega | (simp; done) | (simp; omega) | exact Below.size (B := w.heap.size) (by repeat' (first | with_reducible (first | refine bset ?_ ?_ | exact Below.refl _ _ | assumption | refine bdrewN ?_ _ | refine bdrew ?_ | refine balloc0 ?_ | refine balloc ?_ ?_ | (apply btrans0; rotate_left; assumption) | (apply btrans; rotate_left; assumption)) | exact Below.refl _ _ | assumption | (apply btrans0; rotate_left; assumption) | (apply btrans; rotate_left; assumption) | (simp; done) | omega | (simp; omega))))⟩
  rw [show dat 3 s = num3 s from by unfold dat; simp] at hg
  obtain ⟨R, hR⟩ : ∃ q, getS b 3 = q := ⟨_, rfl⟩
  rw [hR] at hg ⊢
  have HG := Lib.hid hg
  clear hda hg hR hv
  go_enter Try.func35, Try.ntmps35
  simp only [bunC]
  go_wp2_with fail
  refine (rdata_any b _ 3 _ (HR.out.below' (by repeat' (first | with_reducible (first | refine bset ?_ ?_ | exact Below.refl _ _ | assumption | refine bdrewN ?_ _ | refine bdrew ?_ | refine balloc0 ?_ | refine balloc ?_ ?_ | (apply btrans0; rotate_left; assumption) | (apply btrans; rotate_left; assumption)) | exact Below.refl _ _ | assumption | (apply btrans0; rotate_left; assumption) | (apply btrans; rotate_left; assumption) | (simp; done) | omega | (simp; omega))))).mono ?_
  rw [HDA.out]
  simp only
  rintro e w1 ⟨rfl, hb1⟩
  have hB1 : Below w.heap.size w w1 := (by repeat' (first | with_reducible (first | refine bset ?_ ?_ | exact Below.refl _ _ | assumption | refine bdrewN ?_ _ | refine bdrew ?_ | refine balloc0 ?_ | refine balloc ?_ ?_ | (apply btrans0; rotate_left; assumption) | (apply btrans; rotate_left; assumption)) | exact Below.refl _ _ | assumption | (apply btrans0; rotate_left; assumption) | (apply btrans; rotate_left; assumption) | (simp; done) | omega | (simp; omega)))
  clear hb1
  go_wp2_with fail
  refine (rreadlist_from s _ (by omega)).mono ?_
  unfold RLFrom
  rintro e w2 ⟨v, l, k, E, rfl, hb2, hri, hfr, hres⟩
  have hB2 : Below w.heap.size w w2 := (by repeat' (first | with_reducible (first | refine bset ?_ ?_ | exact Below.refl _ _ | assumption | refine bdrewN ?_ _ | refine bdrew ?_ | refine balloc0 ?_ | refine balloc ?_ ?_ | (apply btrans0; rotate_left; assumption) | (apply btrans; rotate_left; assumption)) | exact Below.refl _ _ | assumption | (apply btrans0; rotate_left; assumption) | (apply btrans; rotate_left; assumption) | (simp; done) | omega | (simp; omega)))
  have HFR : Hid (RFrom w.heap.size v) := Lib.hid (hfr.mono (by have := hB1.size; first | exact this | (simp; omega) | omega))
  clear hfr
  clear hb2
  by_cases hE : E = 0
  case neg =>
    have hE2 : (E != 0) = true := by rw [bne_iff_ne]; exact hE
    have HNO : Hid (R = ([], 11)) := Lib.hid (by
      rw [HG.out, num3_none]
      rcases hres with ⟨_, _, _, h⟩ | ⟨h, _⟩
      · exact h
      · exact absurd h hE)
    clear hE hri hres
    go_wp2
    go_ret2
    unfold GetFrom
    rw [HNO.out]
    exact ⟨_, rfl, (by repeat' (first | with_reducible (first | refine bset ?_ ?_ | exact Below.refl _ _ | assumption | refine bdrewN ?_ _ | refine bdrew ?_ | refine balloc0 ?_ | refine balloc ?_ ?_ | (apply btrans0; rotate_left; assumption) | (apply btrans; rotate_left; assumption)) | exact Below.refl _ _ | assumption | (apply btrans0; rotate_left; assumption) | (apply btrans; rotate_left; assumption) | (simp; done) | omega | (simp; omega))), RInts.lit0 _ _ _, RFrom.lit0 (by first | exact Nat.le_refl _ | omega | (simp; done) | (simp; omega) | exact Below.size (B := w.heap.size) (by repeat' (first | with_reducible (first | refine bset ?_ ?_ | exact Below.refl _ _ | assumption | refine bdrewN ?_ _ | refine bdrew ?_ | refine balloc0 ?_ | refine balloc ?_ ?_ | (apply btrans0; rotate_left; assumption) | (apply btrans; rotate_left; assumption)) | exact Below.refl _ _ | assumption | (apply btrans0; rotate_left; assumption) | (apply btrans; rotate_left; assumption) | (simp; done) | omega | (simp; omega))))⟩
  obtain ⟨m, rfl, hls⟩ : ∃ m : Nat, k = m ∧ lstR s = some (l, m) := by
    rcases hres with ⟨h, _⟩ | ⟨_, h⟩
    · exact absurd hE h
    · exact h
  subst hE
  have hll : l.length ≤ s.length := by
    obtain ⟨_, _, _, _, _, _, _, _, _, h⟩ := lstR_some hls
    exact h
  have HNUM := Lib.hid (num3_some hls)
  clear hres hls
  by_cases hm : m = s.length
  case neg =>
    have hm2 : ((m : Int) != (s.length : Int)) = true := by rw [bne_iff_ne]; omega
    have hm3 : ((m : Int) == (s.length : Int)) = false := by rw [beq_eq_false_iff_ne]; omega
    have HNO : Hid (R = ([], 11)) := Lib.hid (by rw [HG.out, HNUM.out, if_neg (fun h => hm h.1)])
    clear hm hri
    go_wp2
    go_ret2
    unfold GetFrom
    rw [HNO.out]
    exact ⟨_, rfl, (by repeat' (first | with_reducible (first | refine bset ?_ ?_ | exact Below.refl _ _ | assumption | refine bdrewN ?_ _ | refine bdrew ?_ | refine balloc0 ?_ | refine balloc ?_ ?_ | (apply btrans0; rotate_left; assumption) | (apply btrans; rotate_left; assumption)) | exact Below.refl _ _ | assumption | (apply btrans0; rotate_left; assumption) | (apply btrans; rotate_left; assumption) | (simp; done) | omega | (simp; omega))), RInts.lit0 _ _ _, RFrom.lit0 (by first | exact Nat.le_refl _ | omega | (simp; done) | (simp; omega) | exact Below.size (B := w.heap.size) (by repeat' (first | with_reducible (first | refine bset ?_ ?_ | exact Below.refl _ _ | assumption | refine bdrewN ?_ _ | refine bdrew ?_ | refine balloc0 ?_ | refine balloc ?_ ?_ | (apply btrans0; rotate_left; assumption) | (apply btrans; rotate_left; assumption)) | exact Below.refl _ _ | assumption | (apply btrans0; rotate_left; assumption) | (apply btrans; rotate_left; assumption) | (simp; done) | omega | (simp; omega))))⟩
  have hm2 : ((m : Int) != (s.length : Int)) = false := by rw [hm]; simp
  have hm3 : ((m : Int) == (s.length : Int)) = true := by rw [hm]; simp
  have HM := Lib.hid hm
  obtain ⟨a, c, rfl, h1, h2, h3, h4⟩ := id hri
  unfold maxLen at h2
  have H4 := Lib.hid h4
  have HRI := Lib.hid hri
  clear hm hri h3 h4
  have hl0 : l.length ≤ 1000000 := by omega
  go_wp2
  go_loopw [8] (fun i wr => ∃ k : Nat, k ≤ l.length ∧ i = .int .i64 k ∧ Hid (visB (l.take k) = true) ∧ Below w2.heap.size w2 wr) (fun i _ => l.length - (intOf i).toNat)
  case atStart => exact ⟨0, Nat.zero_le _, rfl, Lib.hid (by rw [List.take_zero]; decide), Below.refl _ _⟩
  case round =>
    obtain ⟨k, hk, rfl, HV, hb3⟩ := hrel
    obtain ⟨w3, rfl⟩ : ∃ q, q = wr := ⟨_, rfl⟩
    have hB3 : Below w.heap.size w w3 := (by repeat' (first | with_reducible (first | refine bset ?_ ?_ | exact Below.refl _ _ | assumption | refine bdrewN ?_ _ | refine bdrew ?_ | refine balloc0 ?_ | refine balloc ?_ ?_ | (apply btrans0; rotate_left; assumption) | (apply btrans; rotate_left; assumption)) | exact Below.refl _ _ | assumption | (apply btrans0; rotate_left; assumption) | (apply btrans; rotate_left; assumption) | (simp; done) | omega | (simp; omega)))
    have k0 : (0 : Int) ≤ (k : Int) := by omega
    by_cases hlt : k < l.length
    · obtain ⟨b, o, rfl, hbn, hcell⟩ := H4.out (by omega)
      obtain ⟨x, hx⟩ : ∃ x, l[k]? = some x := ⟨_, List.getElem?_eq_getElem hlt⟩
      have c1 := (hb3.cell (p := ⟨b, o + k, none⟩) hbn).trans (hcell k x hx)
      have hbn3 : b < w3.heap.size := by have := hb3.size; omega
      have k1 : (k : Int) < (l.length : Int) := by omega
      have kc : (k : Int) ≤ (c : Int) := by omega
      obtain ⟨p, hp⟩ : ∃ p, nodeB x = p := ⟨_, rfl⟩
      obtain ⟨q, hq⟩ : ∃ p, (l.take k).contains x = p := ⟨_, rfl⟩
      have hs2 := visB_snoc (l.take k) x
      rw [← take_one hx, HV.out, hp, hq, Bool.true_and] at hs2
      have HS := Lib.hid hs2
      have HP := Lib.hid hp
      have HQ := Lib.hid hq
      have HT := Lib.hid ((HRI.out.below' hb3).take k (by omega))
      clear hcell hx hp hq hs2 HV
      cases p with
      | false =>
        have HNO : Hid (R = ([], 11)) := Lib.hid (by rw [HG.out, HNUM.out, if_neg (fun h => by have := visB_take h.2 (k + 1); rw [HS.out] at this; simp at this)])
        go_wp2
        refine wp_region_plan (fun V => Below (w3).heap.size (w3) V) [0, 0, 0, 1, 2, 0, 0, 0, 0, 0, 0, 0, 0, 1, 3, 0] [0, 1, 2, 3, 4, 5, 6, 7, 8, 9, 10, 11, 12, 13, 14, 15] (by kernel_rfl) (by kernel_rfl) ?_ ?_
        case refine_1 => exact (by repeat' (first | with_reducible (first | refine bset ?_ ?_ | exact Below.refl _ _ | assumption | refine bdrewN ?_ _ | refine bdrew ?_ | refine balloc0 ?_ | refine balloc ?_ ?_ | (apply btrans0; rotate_left; assumption) | (apply btrans; rotate_left; assumption)) | exact Below.refl _ _ | assumption | (apply btrans0; rotate_left; assumption) | (apply btrans; rotate_left; assumption) | (simp; done) | omega | (simp; omega)))
        (iterate 4 (first | (refine plan_held rfl (by decide) (by rfl) (fun w1 hS => by (try (obtain ⟨_, _⟩ := bcell (hS rfl))); go_simp; rfl) ?_; simp only [Act.put, List.setIfInBounds_toArray, List.set_cons_zero, List.set_cons_succ]) | (refine plan_skip rfl (by decide) (by rfl) ?_; simp only [Act.put, List.setIfInBounds_toArray, List.set_cons_zero, List.set_cons_succ])))
        (refine plan_keep rfl rfl (by rfl) (fun K hK => ?_); go_simp)
        refine (rnode_b x _).mono ?_
        rw [HP.out]
        rintro e wc43 ⟨rfl, hbc43⟩
        (refine hK _ _ (by exact (by repeat' (first | with_reducible (first | refine bset ?_ ?_ | exact Below.refl _ _ | assumption | refine bdrewN ?_ _ | refine bdrew ?_ | refine balloc0 ?_ | refine balloc ?_ ?_ | (apply btrans0; rotate_left; assumption) | (apply btrans; rotate_left; assumption)) | exact Below.refl _ _ | assumption | (apply btrans0; rotate_left; assumption) | (apply btrans; rotate_left; assumption) | (simp; done) | omega | (simp; omega)))) ?_; clear hK K; (try simp only [Act.put, List.setIfInBounds_toArray, List.set_cons_zero, List.set_cons_succ]))
        (iterate 9 (first | (refine plan_held rfl (by decide) (by rfl) (fun w1 hS => by (try (obtain ⟨_, _⟩ := bcell (hS rfl))); go_simp; rfl) ?_; simp only [Act.put, List.setIfInBounds_toArray, List.set_cons_zero, List.set_cons_succ]) | (refine plan_skip rfl (by decide) (by rfl) ?_; simp only [Act.put, List.setIfInBounds_toArray, List.set_cons_zero, List.set_cons_succ])))
        (refine plan_skipL rfl (by decide) (by rfl) ?_; simp only [Act.put, List.setIfInBounds_toArray, List.set_cons_zero, List.set_cons_succ])
        (iterate 1 (first | (refine plan_held rfl (by decide) (by rfl) (fun w1 hS => by (try (obtain ⟨_, _⟩ := bcell (hS rfl))); go_simp; rfl) ?_; simp only [Act.put, List.setIfInBounds_toArray, List.set_cons_zero, List.set_cons_succ]) | (refine plan_skip rfl (by decide) (by rfl) ?_; simp only [Act.put, List.setIfInBounds_toArray, List.set_cons_zero, List.set_cons_succ])))
        refine plan_done ?_
        go_wp2
        go_ret2
        unfold GetFrom
        rw [HNO.out]
        exact ⟨_, rfl, (by repeat' (first | with_reducible (first | refine bset ?_ ?_ | exact Below.refl _ _ | assumption | refine bdrewN ?_ _ | refine bdrew ?_ | refine balloc0 ?_ | refine balloc ?_ ?_ | (apply btrans0; rotate_left; assumption) | (apply btrans; rotate_left; assumption)) | exact Below.refl _ _ | assumption | (apply btrans0; rotate_left; assumption) | (apply btrans; rotate_left; assumption) | (simp; done) | omega | (simp; omega))), RInts.lit0 _ _ _, RFrom.lit0 (by first | exact Nat.le_refl _ | omega | (simp; done) | (simp; omega) | exact Below.size (B := w.heap.size) (by repeat' (first | with_reducible (first | refine bset ?_ ?_ | exact Below.refl _ _ | assumption | refine bdrewN ?_ _ | refine bdrew ?_ | refine balloc0 ?_ | refine balloc ?_ ?_ | (apply btrans0; rotate_left; assumption) | (apply btrans; rotate_left; assumption)) | exact Below.refl _ _ | assumption | (apply btrans0; rotate_left; assumption) | (apply btrans; rotate_left; assumption) | (simp; done) | omega | (simp; omega))))⟩
      | true =>
        cases q with
        | true =>
          have HNO : Hid (R = ([], 11)) := Lib.hid (by rw [HG.out, HNUM.out, if_neg (fun h => by have := visB_take h.2 (k + 1); rw [HS.out] at this; simp at this)])
          go_wp2
          refine wp_region_plan (fun V => Below (w3).heap.size (w3) V) [0, 0, 0, 1, 2, 0, 0, 0, 0, 0, 0, 0, 0, 1, 3, 0] [0, 1, 2, 3, 4, 5, 6, 7, 8, 9, 10, 11, 12, 13, 14, 15] (by kernel_rfl) (by kernel_rfl) ?_ ?_
          case refine_1 => exact (by repeat' (first | with_reducible (first | refine bset ?_ ?_ | exact Below.refl _ _ | assumption | refine bdrewN ?_ _ | refine bdrew ?_ | refine balloc0 ?_ | refine balloc ?_ ?_ | (apply btrans0; rotate_left; assumption) | (apply btrans; rotate_left; assumption)) | exact Below.refl _ _ | assumption | (apply btrans0; rotate_left; assumption) | (apply btrans; rotate_left; assumption) | (simp; done) | omega | (simp; omega)))
          (iterate 4 (first | (refine plan_held rfl (by decide) (by rfl) (fun w1 hS => by (try (obtain ⟨_, _⟩ := bcell (hS rfl))); go_simp; rfl) ?_; simp only [Act.put, List.setIfInBounds_toArray, List.set_cons_zero, List.set_cons_succ]) | (refine plan_skip rfl (by decide) (by rfl) ?_; simp only [Act.put, List.setIfInBounds_toArray, List.set_cons_zero, List.set_cons_succ])))
          (refine plan_keep rfl rfl (by rfl) (fun K hK => ?_); go_simp)
          refine (rnode_b x _).mono ?_
          rw [HP.out]
          rintro e wc43 ⟨rfl, hbc43⟩
          (refine hK _ _ (by exact (by repeat' (first | with_reducible (first | refine bset ?_ ?_ | exact Below.refl _ _ | assumption | refine bdrewN ?_ _ | refine bdrew ?_ | refine balloc0 ?_ | refine balloc ?_ ?_ | (apply btrans0; rotate_left; assumption) | (apply btrans; rotate_left; assumption)) | exact Below.refl _ _ | assumption | (apply btrans0; rotate_left; assumption) | (apply btrans; rotate_left; assumption) | (simp; done) | omega | (simp; omega)))) ?_; clear hK K; (try simp only [Act.put, List.setIfInBounds_toArray, List.set_cons_zero, List.set_cons_succ]))
          (iterate 9 (first | (refine plan_held rfl (by decide) (by rfl) (fun w1 hS => by (try (obtain ⟨_, _⟩ := bcell (hS rfl))); go_simp; rfl) ?_; simp only [Act.put, List.setIfInBounds_toArray, List.set_cons_zero, List.set_cons_succ]) | (refine plan_skip rfl (by decide) (by rfl) ?_; simp only [Act.put, List.setIfInBounds_toArray, List.set_cons_zero, List.set_cons_succ])))
          (refine plan_late rfl rfl (by rfl) (fun K hK => ?_); go_simp)
          refine (rhasI_b (l.take k) _ x _ (HT.out.below' (by repeat' (first | with_reducible (first | refine bset ?_ ?_ | exact Below.refl _ _ | assumption | refine bdrewN ?_ _ | refine bdrew ?_ | refine balloc0 ?_ | refine balloc ?_ ?_ | (apply btrans0; rotate_left; assumption) | (apply btrans; rotate_left; assumption)) | exact Below.refl _ _ | assumption | (apply btrans0; rotate_left; assumption) | (apply btrans; rotate_left; assumption) | (simp; done) | omega | (simp; omega))))).mono ?_
          rw [HQ.out]
          rintro e wc53 ⟨rfl, hbc53⟩
          (refine hK _ _ ?_; clear hK K; (try simp only [Act.put, List.setIfInBounds_toArray, List.set_cons_zero, List.set_cons_succ]))
          (iterate 1 (first | (refine plan_held rfl (by decide) (by rfl) (fun w1 hS => by (try (obtain ⟨_, _⟩ := bcell (hS rfl))); go_simp; rfl) ?_; simp only [Act.put, List.setIfInBounds_toArray, List.set_cons_zero, List.set_cons_succ]) | (refine plan_skip rfl (by decide) (by rfl) ?_; simp only [Act.put, List.setIfInBounds_toArray, List.set_cons_zero, List.set_cons_succ])))
          refine plan_done ?_
          go_wp2
          go_ret2
          unfold GetFrom
          rw [HNO.out]
          exact ⟨_, rfl, (by repeat' (first | with_reducible (first | refine bset ?_ ?_ | exact Below.refl _ _ | assumption | refine bdrewN ?_ _ | refine bdrew ?_ | refine balloc0 ?_ | refine balloc ?_ ?_ | (apply btrans0; rotate_left; assumption) | (apply btrans; rotate_left; assumption)) | exact Below.refl _ _ | assumption | (apply btrans0; rotate_left; assumption) | (apply btrans; rotate_left; assumption) | (simp; done) | omega | (simp; omega))), RInts.lit0 _ _ _, RFrom.lit0 (by first | exact Nat.le_refl _ | omega | (simp; done) | (simp; omega) | exact Below.size (B := w.heap.size) (by repeat' (first | with_reducible (first | refine bset ?_ ?_ | exact Below.refl _ _ | assumption | refine bdrewN ?_ _ | refine bdrew ?_ | refine balloc0 ?_ | refine balloc ?_ ?_ | (apply btrans0; rotate_left; assumption) | (apply btrans; rotate_left; assumption)) | exact Below.refl _ _ | assumption | (apply btrans0; rotate_left; assumption) | (apply btrans; rotate_left; assumption) | (simp; done) | omega | (simp; omega))))⟩
        | false =>
          go_wp2
          refine wp_region_plan (fun V => Below (w3).heap.size (w3) V) [0, 0, 0, 1, 2, 0, 0, 0, 0, 0, 0, 0, 0, 1, 3, 0] [0, 1, 2, 3, 4, 5, 6, 7, 8, 9, 10, 11, 12, 13, 14, 15] (by kernel_rfl) (by kernel_rfl) ?_ ?_
          case refine_1 => exact (by repeat' (first | with_reducible (first | refine bset ?_ ?_ | exact Below.refl _ _ | assumption | refine bdrewN ?_ _ | refine bdrew ?_ | refine balloc0 ?_ | refine balloc ?_ ?_ | (apply btrans0; rotate_left; assumption) | (apply btrans; rotate_left; assumption)) | exact Below.refl _ _ | assumption | (apply btrans0; rotate_left; assumption) | (apply btrans; rotate_left; assumption) | (simp; done) | omega | (simp; omega)))
          (iterate 4 (first | (refine plan_held rfl (by decide) (by rfl) (fun w1 hS => by (try (obtain ⟨_, _⟩ := bcell (hS rfl))); go_simp; rfl) ?_; simp only [Act.put, List.setIfInBounds_toArray, List.set_cons_zero, List.set_cons_succ]) | (refine plan_skip rfl (by decide) (by rfl) ?_; simp only [Act.put, List.setIfInBounds_toArray, List.set_cons_zero, List.set_cons_succ])))
          (refine plan_keep rfl rfl (by rfl) (fun K hK => ?_); go_simp)
          refine (rnode_b x _).mono ?_
          rw [HP.out]
          rintro e wc43 ⟨rfl, hbc43⟩
          (refine hK _ _ (by exact (by repeat' (first | with_reducible (first | refine bset ?_ ?_ | exact Below.refl _ _ | assumption | refine bdrewN ?_ _ | refine bdrew ?_ | refine balloc0 ?_ | refine balloc ?_ ?_ | (apply btrans0; rotate_left; assumption) | (apply btrans; rotate_left; assumption)) | exact Below.refl _ _ | assumption | (apply btrans0; rotate_left; assumption) | (apply btrans; rotate_left; assumption) | (simp; done) | omega | (simp; omega)))) ?_; clear hK K; (try simp only [Act.put, List.setIfInBounds_toArray, List.set_cons_zero, List.set_cons_succ]))
          (iterate 9 (first | (refine plan_held rfl (by decide) (by rfl) (fun w1 hS => by (try (obtain ⟨_, _⟩ := bcell (hS rfl))); go_simp; rfl) ?_; simp only [Act.put, List.setIfInBounds_toArray, List.set_cons_zero, List.set_cons_succ]) | (refine plan_skip rfl (by decide) (by rfl) ?_; simp only [Act.put, List.setIfInBounds_toArray, List.set_cons_zero, List.set_cons_succ])))
          (refine plan_late rfl rfl (by rfl) (fun K hK => ?_); go_simp)
          refine (rhasI_b (l.take k) _ x _ (HT.out.below' (by repeat' (first | with_reducible (first | refine bset ?_ ?_ | exact Below.refl _ _ | assumption | refine bdrewN ?_ _ | refine bdrew ?_ | refine balloc0 ?_ | refine balloc ?_ ?_ | (apply btrans0; rotate_left; assumption) | (apply btrans; rotate_left; assumption)) | exact Below.refl _ _ | assumption | (apply btrans0; rotate_left; assumption) | (apply btrans; rotate_left; assumption) | (simp; done) | omega | (simp; omega))))).mono ?_
          rw [HQ.out]
          rintro e wc53 ⟨rfl, hbc53⟩
          (refine hK _ _ ?_; clear hK K; (try simp only [Act.put, List.setIfInBounds_toArray, List.set_cons_zero, List.set_cons_succ]))
          (iterate 1 (first | (refine plan_held rfl (by decide) (by rfl) (fun w1 hS => by (try (obtain ⟨_, _⟩ := bcell (hS rfl))); go_simp; rfl) ?_; simp only [Act.put, List.setIfInBounds_toArray, List.set_cons_zero, List.set_cons_succ]) | (refine plan_skip rfl (by decide) (by rfl) ?_; simp only [Act.put, List.setIfInBounds_toArray, List.set_cons_zero, List.set_cons_succ])))
          refine plan_done ?_
          go_wp2
          go_roundw
          case rel => exact ⟨k + 1, by omega, by go_num, Lib.hid (by rw [HS.out]; rfl), (by repeat' (first | with_reducible (first | refine bset ?_ ?_ | exact Below.refl _ _ | assumption | refine bdrewN ?_ _ | refine bdrew ?_ | refine balloc0 ?_ | refine balloc ?_ ?_ | (apply btrans0; rotate_left; assumption) | (apply btrans; rotate_left; assumption)) | exact Below.refl _ _ | assumption | (apply btrans0; rotate_left; assumption) | (apply btrans; rotate_left; assumption) | (simp; done) | omega | (simp; omega)))⟩
          case measure => simp [intOf]; omega
    · obtain rfl : k = l.length := by omega
      have HNO : Hid (R = (l, 0)) := Lib.hid (by
        have := HV.out
        rw [List.take_length] at this
        rw [HG.out, HNUM.out, if_pos ⟨HM.out, this⟩])
      go_wp2
      go_ret2
      unfold GetFrom
      rw [HNO.out]
      exact ⟨_, rfl, hB3, HRI.out.below' hb3, HFR.out⟩
end Go.Proofs.Ythgokfceakbjlaa
