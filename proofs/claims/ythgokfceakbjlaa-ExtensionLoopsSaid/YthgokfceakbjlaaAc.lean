/- Layer 14 (extension): lists of integers as bytes: the reference's ReadList and List, the program's List. -/
import Derived.Test.YthgokfceakbjlaaAb
set_option linter.unusedVariables false
set_option linter.unusedSimpArgs false
namespace Go.Proofs.Ythgokfceakbjlaa
open Go Go.RowKit
attribute [local go_sem] B_getElem B_size B_app B_extract B_get B_toList

theorem RInts.lit0 (w : World) (N : Nat) (a : Addr) : RInts w N (.slice (some a) 0 0) [] := ⟨some a, 0, rfl, Nat.le_refl _, by simp [maxLen], (fun h => by cases h), fun h => by simp at h⟩
set_option maxRecDepth 100000 in
set_option maxHeartbeats 8000000 in
theorem rreadlist_any (s : List UInt8) (w : World) (hs : s.length ≤ 1000000) :
    Calls Try.prog 64 #[.string (B s)] w (RLPost s w) := by
  obtain ⟨⟨n1, k1, e1⟩, h1⟩ : ∃ x, lenS s = x := ⟨_, rfl⟩
  have H1 := Lib.hid h1
  obtain ⟨i0, hin, hz0, hz1, hz2⟩ := info_parts infoInt
  by_cases he : e1 = 0
  case neg =>
    have HNO : Hid (lstR s = none) := Lib.hid (lstR_none h1 he)
    have he2 : (e1 != 0) = true := by rw [bne_iff_ne]; exact he
    have HE := Lib.hid he
    clear h1 he
    go_enter Try.func64, Try.ntmps64
    go_wp2_with fail
    refine (rlength_any s n1 k1 e1 _ (by omega) H1.out).mono ?_
    rintro e w1 ⟨rfl, rfl⟩
    go_wp2
    go_ret3
    unfold RLPost
    exact ⟨_, [], 0, e1, rfl, (by repeat' (first | with_reducible (first | refine bset ?_ ?_ | exact Below.refl _ _ | assumption | refine bdrewN ?_ _ | refine bdrew ?_ | refine balloc0 ?_ | refine balloc ?_ ?_ | (apply btrans0; rotate_left; assumption) | (apply btrans; rotate_left; assumption)) | exact Below.refl _ _ | assumption | (apply btrans0; rotate_left; assumption) | (apply btrans; rotate_left; assumption) | (simp; done) | omega | (simp; omega))), RInts.lit0 _ _ _, .inl ⟨HE.out, rfl, rfl, HNO.out⟩⟩
  subst he
  obtain ⟨q1, q2, q3, q4, q5⟩ := (lenS_ok h1).1 rfl
  obtain ⟨N, rfl⟩ : ∃ N : Nat, n1 = N := ⟨n1.toNat, by omega⟩
  obtain ⟨K, rfl⟩ : ∃ K : Nat, k1 = K := ⟨k1.toNat, by omega⟩
  have hKs : K ≤ s.length := by omega
  have hN : N ≤ 65536 := by omega
  obtain ⟨R, hR⟩ : ∃ q, rdNs N (s.drop K) = q := ⟨_, rfl⟩
  have HNone : Hid (R = none → lstR s = none) := Lib.hid (fun h => lstR_none2 h1 (hR.trans h))
  have HSome : Hid (∀ l m, R = some (l, m) → lstR s = some (l, K + m)) := Lib.hid (fun l m h => lstR_of h1 (hR.trans h))
  have HR0 : Hid (moreN [] (K - K) (rdNs (N - 0) (s.drop K)) = R) := Lib.hid (by rw [← hR, Nat.sub_self, Nat.sub_zero]; cases rdNs N (s.drop K) with | none => rfl | some r => simp [moreN])
  clear h1 hR q1 q2 q3 q4 q5
  go_enter Try.func64, Try.ntmps64
  go_wp2_with fail
  refine (rlength_any s N K 0 _ (by omega) H1.out).mono ?_
  rintro e w1 ⟨rfl, rfl⟩
  go_wp2
  go_loopw [8, 9, 6] (fun o i a wr => ∃ (j p : Nat) (l : List Int), i = .int .i64 j ∧ a = .int .i64 (p : Int) ∧ j ≤ N ∧ l.length = j ∧ K ≤ p ∧ p ≤ s.length ∧ wr.ownsRow w.heap.size 3 1 o j (ints l) ∧ Hid (moreN l (p - K) (rdNs (N - j) (s.drop p)) = R) ∧ Below w.heap.size w wr) (fun _ i _ _ => N - (intOf i).toNat)
  case atStart => exact ⟨0, K, [], rfl, rfl, by omega, rfl, Nat.le_refl _, hKs, World.ownsRow_made w #[] 0 (Nat.le_refl _) (by simp) rfl, HR0, balloc0 (Below.refl _ _)⟩
  case round =>
    obtain ⟨j, p, l, rfl, rfl, hj, hl, hp0, hp, hown, HM, hB⟩ := hrel
    have HLN := Lib.hid hl
    have zr : w.heap.size ≤ wr.heap.size := hB.size
    have i0' : (0 : Int) ≤ (p : Int) := by omega
    have i1 : (p : Int) ≤ (s.length : Int) := by omega
    have i3 : (s.drop p).take (s.length - p) = s.drop p := List.take_of_length_le (by rw [List.length_drop]; exact Nat.le_refl _)
    have hld : (s.drop p).length ≤ 1000000000 := by rw [List.length_drop]; omega
    have k0' : (0 : Int) ≤ (j : Int) := by omega
    clear hl
    by_cases hlt : j < N
    · obtain ⟨⟨n, kk, e⟩, hr⟩ : ∃ r, readS (s.drop p) = r := ⟨_, rfl⟩
      have hm := HM.out
      rw [show N - j = N - (j + 1) + 1 by omega] at hm
      have hok2 := readS_ok hr
      rw [List.length_drop] at hok2
      have k1 : (j : Int) < (N : Int) := by omega
      by_cases he : e = 0
      case neg =>
        rw [moreN_bad hr he] at hm
        have HNo : Hid (lstR s = none) := Lib.hid (HNone.out hm.symm)
        have he2 : (e != 0) = true := by rw [bne_iff_ne]; exact he
        have HE := Lib.hid he
        have HR := Lib.hid hr
        clear he hm hr hok2
        go_wp2_with fail
        refine (rreadint_any (s.drop p) n kk e _ (by omega) HR.out).mono ?_
        rintro e' w5 ⟨rfl, rfl⟩
        go_wp2
        go_ret3
        unfold RLPost
        exact ⟨_, [], 0, e, rfl, (by repeat' (first | with_reducible (first | refine bset ?_ ?_ | exact Below.refl _ _ | assumption | refine bdrewN ?_ _ | refine bdrew ?_ | refine balloc0 ?_ | refine balloc ?_ ?_ | (apply btrans0; rotate_left; assumption) | (apply btrans; rotate_left; assumption)) | exact Below.refl _ _ | assumption | (apply btrans0; rotate_left; assumption) | (apply btrans; rotate_left; assumption) | (simp; done) | omega | (simp; omega))), RInts.lit0 _ _ _, .inl ⟨HE.out, rfl, rfl, HNo.out⟩⟩
      subst he
      rw [moreN_step hr] at hm
      obtain ⟨q1, q2, q3, _, _⟩ := hok2.1 rfl
      obtain ⟨m, rfl⟩ : ∃ m : Nat, kk = m := ⟨kk.toNat, by omega⟩
      rw [Int.toNat_natCast, List.drop_drop] at hm
      have HR := Lib.hid hr
      have HMM := Lib.hid hm
      have hw : IntKind.i64.wrap ((p : Int) + (m : Int)) = ((p + m : Nat) : Int) := by rw [IntKind.wrap_i64]; omega
      clear hm hr hok2
      go_wp2_with fail
      refine (rreadint_any (s.drop p) n m 0 _ (by omega) HR.out).mono ?_
      rintro e' w5 ⟨rfl, rfl⟩
      go_wp2_with (at_builtin; refine wpList_append_own _ rfl _ _ _ rfl w.heap.size 3 i0 _ 1 8 Try.underlying36 hin hz0 hz1 hz2 rfl (by omega) _ _ _ rfl (hown.alloc _) ⟨wr.heap.size, 0, none⟩ 1 1 [.int .i64 n] rfl rfl (news_one heap_new) (by simp [Value.oneCell']) (by simp only [maxLen]; omega) (by omega) (by simp; omega) ?_; intro v' w6 hO6 hg6 _)
      have hB6 : Below w.heap.size w w6 := (balloc hB (by omega)).grown hg6 (by simp; omega) (fun q hq => (hown.lt q hq).1)
      go_roundw
      case rel => exact ⟨j + 1, p + m, l ++ [n], by go_num, by go_num, by omega, by have := HLN.out; simp; omega, by omega, by omega, by simpa [ints] using hO6, Lib.hid (by rw [← HMM.out]; congr 1; omega), hB6⟩
      case measure => simp [intOf]; omega
    · obtain rfl : j = N := by omega
      have hm := HM.out
      rw [Nat.sub_self] at hm
      have HSm : Hid (lstR s = some (l, p)) := Lib.hid (by
        have := HSome.out l (p - K) (by rw [← hm]; simp [rdNs, moreN])
        rwa [show K + (p - K) = p by omega] at this)
      have hri := RInts.of_own hown
      clear hm HM
      have HRI := Lib.hid hri
      clear hri
      go_wp2
      go_ret3
      unfold RLPost
      exact ⟨_, l, p, 0, rfl, (by repeat' (first | with_reducible (first | refine bset ?_ ?_ | exact Below.refl _ _ | assumption | refine bdrewN ?_ _ | refine bdrew ?_ | refine balloc0 ?_ | refine balloc ?_ ?_ | (apply btrans0; rotate_left; assumption) | (apply btrans; rotate_left; assumption)) | exact Below.refl _ _ | assumption | (apply btrans0; rotate_left; assumption) | (apply btrans; rotate_left; assumption) | (simp; done) | omega | (simp; omega))), HRI.out, .inr ⟨rfl, p, rfl, HSm.out⟩⟩
theorem listE_step (l : List Int) (k : Nat) (n : Int) (h : l[k]? = some n) : intE l.length ++ (l.take (k + 1)).flatMap intE = (intE l.length ++ (l.take k).flatMap intE) ++ intE n := by
  rw [List.take_add_one, h]; simp
theorem flat_size (l : List Int) : (l.flatMap intE).length ≤ 11 * l.length := by
  induction l with
  | nil => simp
  | cons n l ih =>
    have := (intE_len n).2
    rw [List.flatMap_cons, List.length_append, List.length_cons]; omega
theorem flat_take (l : List Int) (k : Nat) : ((l.take k).flatMap intE).length ≤ 11 * l.length := by
  have := flat_size (l.take k)
  rw [List.length_take] at this
  omega
def IRange (l : List Int) : Prop := ∀ n ∈ l, -1152921504606846976 ≤ n ∧ n ≤ 1152921504606846976
set_option maxRecDepth 100000 in
set_option maxHeartbeats 4000000 in
theorem rlist_any (l : List Int) (u : Value) (w : World) (h : RInts w w.heap.size u l) (hl : l.length ≤ 1000) (hr : IRange l) :
    Calls Try.prog 70 #[u] w fun e w' => e = .returned (.tuple #[.string (B (listE l)), .int .i64 0]) ∧ Below w.heap.size w w' := by
  obtain ⟨a, c, rfl, h1, h2, h3, h4⟩ := h
  unfold maxLen at h2
  have H4 := Lib.hid h4
  have HRG := Lib.hid hr
  have g1 : ¬ 65536 < (l.length : Int) := by omega
  clear h3 h4 hr
  go_enter Try.func70, Try.ntmps70
  go_wp2_with fail
  refine (rint_any (l.length : Int) _ (by omega) (by omega)).mono ?_
  rintro e w1 ⟨rfl, hb1⟩
  have hB1 : Below w.heap.size w w1 := (by repeat' (first | with_reducible (first | refine bset ?_ ?_ | exact Below.refl _ _ | assumption | refine bdrewN ?_ _ | refine bdrew ?_ | refine balloc0 ?_ | refine balloc ?_ ?_ | (apply btrans0; rotate_left; assumption) | (apply btrans; rotate_left; assumption)) | exact Below.refl _ _ | assumption | (apply btrans0; rotate_left; assumption) | (apply btrans; rotate_left; assumption) | (simp; done) | omega | (simp; omega)))
  clear hb1
  go_wp2
  go_loopw [6, 4] (fun i o wr => ∃ (k : Nat) (out : List UInt8), k ≤ l.length ∧ i = .int .i64 k ∧ o = .string (B out) ∧ Hid (out = intE l.length ++ (l.take k).flatMap intE) ∧ Below w.heap.size w wr) (fun i _ _ => l.length - (intOf i).toNat)
  case atStart => exact ⟨0, intE l.length, by omega, rfl, rfl, Lib.hid (by simp), hB1⟩
  case round =>
    obtain ⟨k, out, hk, rfl, rfl, HO, hB⟩ := hrel
    have k0 : (0 : Int) ≤ (k : Int) := by omega
    by_cases hlt : k < l.length
    · obtain ⟨b, o, rfl, hbn, hcell⟩ := H4.out (by omega)
      obtain ⟨n, hn⟩ : ∃ n, l[k]? = some n := ⟨_, List.getElem?_eq_getElem hlt⟩
      have c1 := (hB.cell (p := ⟨b, o + k, none⟩) hbn).trans (hcell k n hn)
      obtain ⟨n1, n2⟩ := HRG.out n (List.mem_of_getElem? hn)
      have m1 := (intE_len (l.length : Int)).2
      have m2 := flat_take l k
      have hLl : out.length ≤ 20000 := by rw [HO.out, List.length_append]; omega
      have HO2 : Hid (out ++ intE n = intE l.length ++ (l.take (k + 1)).flatMap intE) := Lib.hid (by rw [listE_step l k n hn, HO.out])
      have k1 : (k : Int) < (l.length : Int) := by omega
      have i1 := (intE_len n).2
      obtain ⟨y, hy⟩ : ∃ y, intE n = y := ⟨_, rfl⟩
      rw [hy] at i1
      have HY := Lib.hid hy
      have hcat : ¬ 9223372036854775807 < out.length + y.length := by omega
      clear hn hcell m1 m2 hy
      go_wp2_with fail
      refine (rint_any n _ n1 n2).mono ?_
      rw [HY.out]
      rintro e w5 ⟨rfl, hb5⟩
      have hB5 : Below w.heap.size w w5 := (by repeat' (first | with_reducible (first | refine bset ?_ ?_ | exact Below.refl _ _ | assumption | refine bdrewN ?_ _ | refine bdrew ?_ | refine balloc0 ?_ | refine balloc ?_ ?_ | (apply btrans0; rotate_left; assumption) | (apply btrans; rotate_left; assumption)) | exact Below.refl _ _ | assumption | (apply btrans0; rotate_left; assumption) | (apply btrans; rotate_left; assumption) | (simp; done) | omega | (simp; omega)))
      clear hb5
      go_wp2
      go_roundw
      case rel => exact ⟨k + 1, out ++ y, by omega, by go_num, rfl, Lib.hid (by rw [← HY.out]; exact HO2.out), hB5⟩
      case measure => simp [intOf]; omega
    · obtain rfl : k = l.length := by omega
      have HF : Hid (out = listE l) := Lib.hid (by rw [HO.out, List.take_length]; rfl)
      go_wp2
      go_ret2
      rw [← HF.out]
      exact ⟨rfl, hB⟩
attribute [local go_sem ↓] str_bytes
set_option maxRecDepth 100000 in
set_option maxHeartbeats 4000000 in
theorem list_any (l : List Int) (u : Value) (w : World) (h : RInts w w.heap.size u l) (hl : l.length ≤ 1000) (hr : IRange l) :
    Calls Try.prog 42 #[u] w fun e w' => e = .returned (.tuple #[.string (B (listE l)), .int .i64 0]) ∧ Below w.heap.size w w' := by
  obtain ⟨a, c, rfl, h1, h2, h3, h4⟩ := h
  unfold maxLen at h2
  have H4 := Lib.hid h4
  have HRG := Lib.hid hr
  have g1 : ¬ 65536 < (l.length : Int) := by omega
  obtain ⟨i0, hin, hz0, hz1, hz2⟩ := info_parts infoU8
  clear h3 h4 hr
  have m1 := (intE_len (l.length : Int)).2
  obtain ⟨L0, hL0⟩ : ∃ q, intE (l.length : Int) = q := ⟨_, rfl⟩
  rw [hL0] at m1
  have HL0 := Lib.hid hL0
  clear hL0
  go_enter Try.func42, Try.ntmps42
  go_wp2_with fail
  refine (int_any (l.length : Int) _ (by omega) (by omega)).mono ?_
  rw [HL0.out]
  rintro e w1 ⟨rfl, hb1⟩
  have hB1 : Below w.heap.size w w1 := (by repeat' (first | with_reducible (first | refine bset ?_ ?_ | exact Below.refl _ _ | assumption | refine bdrewN ?_ _ | refine bdrew ?_ | refine balloc0 ?_ | refine balloc ?_ ?_ | (apply btrans0; rotate_left; assumption) | (apply btrans; rotate_left; assumption)) | exact Below.refl _ _ | assumption | (apply btrans0; rotate_left; assumption) | (apply btrans; rotate_left; assumption) | (simp; done) | omega | (simp; omega)))
  clear hb1
  go_wp2
  have hO := OwnS.conv w1 L0 (by unfold maxLen; omega)
  have hBc : Below w1.heap.size w1 (Lib.bytesWorld w1 5 (B L0)) := bytes_below
  have zc : w1.heap.size < (Lib.bytesWorld w1 5 (B L0)).heap.size := by rw [Lib.bytesWorld_size]; omega
  generalize Lib.bytesWorld w1 5 (B L0) = wc at *
  generalize (Value.slice (some ⟨w1.heap.size, 0, none⟩) L0.length (grownCap w1 L0.length 0 5)) = vo at *
  have HOO := Lib.hid hO
  clear hO
  go_loopw [24, 6] (fun i o wr => ∃ (k : Nat) (out : List UInt8), k ≤ l.length ∧ i = .int .i64 k ∧ OwnS wr w1.heap.size o out ∧ Hid (out = L0 ++ (l.take k).flatMap intE) ∧ Below w1.heap.size w1 wr) (fun i _ _ => l.length - (intOf i).toNat)
  case atStart => exact ⟨0, L0, by omega, rfl, HOO.out, Lib.hid (by simp), hBc⟩
  case round =>
    obtain ⟨k, out, hk, rfl, hO, HO, hB⟩ := hrel
    have k0 : (0 : Int) ≤ (k : Int) := by omega
    have hBw : Below w.heap.size w wr := hB1.trans (hB.mono hB1.size)
    have zr : w1.heap.size ≤ wr.heap.size := hB.size
    by_cases hlt : k < l.length
    · obtain ⟨b, o, rfl, hbn, hcell⟩ := H4.out (by omega)
      obtain ⟨n, hn⟩ : ∃ n, l[k]? = some n := ⟨_, List.getElem?_eq_getElem hlt⟩
      have c1 := (hBw.cell (p := ⟨b, o + k, none⟩) hbn).trans (hcell k n hn)
      obtain ⟨n1, n2⟩ := HRG.out n (List.mem_of_getElem? hn)
      have m2 := flat_take l k
      have hLl : out.length ≤ 20000 := by rw [HO.out, List.length_append]; omega
      have HO2 : Hid (out ++ intE n = L0 ++ (l.take (k + 1)).flatMap intE) := Lib.hid (by rw [List.take_add_one, hn, HO.out]; simp)
      have k1 : (k : Int) < (l.length : Int) := by omega
      have i1 := (intE_len n).2
      clear hn hcell m2
      go_wp2_with fail
      refine (int_any n _ n1 n2).mono ?_
      rintro e w5 ⟨rfl, hb5⟩
      have hO5 := hO.below hb5
      have hB5 : Below w1.heap.size w1 w5 := (by repeat' (first | with_reducible (first | refine bset ?_ ?_ | exact Below.refl _ _ | assumption | refine bdrewN ?_ _ | refine bdrew ?_ | refine balloc0 ?_ | refine balloc ?_ ?_ | (apply btrans0; rotate_left; assumption) | (apply btrans; rotate_left; assumption)) | exact Below.refl _ _ | assumption | (apply btrans0; rotate_left; assumption) | (apply btrans; rotate_left; assumption) | (simp; done) | omega | (simp; omega)))
      have z5 : w1.heap.size ≤ w5.heap.size := hB5.size
      clear hb5 hO
      go_wp2_with (at_builtin; refine wpList_append_S rfl _ _ _ _ rfl w1.heap.size i0 Try.underlying51 Try.underlying9 hin hz0 hz1 hz2 _ out rfl hO5 (intE n) rfl (by omega) (by omega) ?_; intro v' w6 hO6 hg6)
      have hB6 : Below w1.heap.size w1 w6 := hB5.grown hg6 z5 (fun q hq => (hO5.lt q hq).1)
      go_roundw
      case rel => exact ⟨k + 1, out ++ intE n, by omega, by go_num, hO6, HO2, hB6⟩
      case measure => simp [intOf]; omega
    · obtain rfl : k = l.length := by omega
      have HF : Hid (out = listE l) := Lib.hid (by rw [HO.out, List.take_length, ← HL0.out]; rfl)
      have hbk := hO.back
      clear hO
      go_wp2
      go_ret2
      rw [← HF.out]
      exact ⟨rfl, hBw⟩
end Go.Proofs.Ythgokfceakbjlaa
