/- Joined by port.py: XTi -/
import Derived.Test.YtpkklmkeflddkaaJr
import Derived.Test.YtpkklmkeflddkaaJa
import Derived.Test.YtpkklmkeflddkaaJb
import Derived.Test.YtpkklmkeflddkaaJc
import Derived.Test.YtpkklmkeflddkaaJd
import Derived.Test.YtpkklmkeflddkaaJe
import Derived.Test.YtpkklmkeflddkaaJf
import Derived.Test.YtpkklmkeflddkaaJh
import Derived.Test.YtpkklmkeflddkaaJi
import Derived.Test.YtpkklmkeflddkaaJj
import Derived.Test.YtpkklmkeflddkaaJk
import Derived.Test.YtpkklmkeflddkaaJl
import Derived.Test.YtpkklmkeflddkaaJm
import Derived.Test.YtpkklmkeflddkaaJp
set_option linter.unusedVariables false
set_option linter.unusedSimpArgs false
/-! XTi -/
namespace Go.Proofs.Ytpkklmkeflddkaa
open Go Go.RowKit
attribute [local go_sem] B_getElem B_size B_app B_extract B_get B_toList
/-- what is left of the integers, joined to what is there -/
def moreN (l : List Int) (d : Nat) : Option (List Int × Nat) → Option (List Int × Nat)
  | none => none
  | some r => some (l ++ r.1, d + r.2)
theorem moreN_step {l : List Int} {d f : Nat} {s : List UInt8} {n k : Int} (h : readS s = (n, k, 0)) : moreN l d (rdNs (f + 1) s) = moreN (l ++ [n]) (d + k.toNat) (rdNs f (s.drop k.toNat)) := by
  rw [rdNs, h]
  simp only
  rw [if_neg (by simp)]
  cases rdNs f (s.drop k.toNat) with
  | none => rfl
  | some r => simp [moreN, Nat.add_assoc]
theorem moreN_bad {l : List Int} {d f : Nat} {s : List UInt8} {n k e : Int} (h : readS s = (n, k, e)) (he : e ≠ 0) : moreN l d (rdNs (f + 1) s) = none := by
  rw [rdNs, h]; simp only; rw [if_pos he]; rfl
/-- the bundle in a frame behind its name -/
def restD (t : List UInt8) (d : Nat) : Option (List Int × Nat) → Option Bun
  | none => none
  | some (l, m) =>
    let y := decAS (t.drop (d + m))
    if y.2.2 ≠ 0 then none
    else
      let z := textS (t.drop (d + m + y.2.1))
      if z.2.2 ≠ 0 then none
      else if d + m + y.2.1 + z.2.1.toNat ≠ t.length then none
      else if chkE (mkBun l y.1 z.1) ≠ 0 then none else some (mkBun l y.1 z.1)
theorem bodyD_rest {t : List UInt8} {k : Int} (h : textS t = (magicL, k, 0)) : bodyD t = restD t k.toNat (rdNs 10 (t.drop k.toNat)) := by
  unfold bodyD restD
  rw [h]
  simp only
  rw [if_neg (by simp)]
  cases rdNs 10 (t.drop k.toNat) with
  | none => rfl
  | some r => rfl
set_option maxRecDepth 100000 in
set_option maxHeartbeats 6000000 in
theorem rbunDecode_any (s : List UInt8) (w : World) (hs : s.length ≤ 1000000000) :
    Calls Try.prog 35 #[.string (B s)] w (DecPost (decBS s).1 (decBS s).2 w) := by
  obtain ⟨⟨t, c, e0⟩, h0⟩ : ∃ q, openS tailB s = q := ⟨_, rfl⟩
  have hok := openS_len h0
  have ht : t.length ≤ 1000000000 := by omega
  have H0 := Lib.hid h0
  by_cases he : e0 = 0
  case neg =>
    rw [decB_open h0 he]
    have he1 : (e0 == 0) = false := beq_eq_false_iff_ne.2 he
    have he2 : (e0 != 0) = true := by rw [bne_iff_ne]; exact he
    clear he h0
    go_enter Try.func35, Try.ntmps35
    go_wp2_with fail
    refine (ropen_any s t c e0 _ hs H0.out).mono ?_
    rintro e' w1 ⟨rfl, hb1⟩
    have G1 : w1.heap[w.heap.size]? = some (.cells bun0 28 (0, 0)) := (hb1.block _ (by simp)).trans heap_new
    have cg := fun o => cellB G1 o
    have fg := fun o => frozenB G1 o
    simp only [bun0] at cg
    go_wp2
    refine bodyPost_ret (v := .tuple #[.agg #[.int .i64 0, .int .i64 0, .int .i64 0, .int .i64 0, .int .i64 0, .int .i64 0, .int .i64 0, .int .i64 0, .int .i64 0, .int .i64 0, .slice none 0 0, .string { data := #[] }], .int .i64 e0]) (by simp [results, Try.results35, go_sem, World.cell?_setCell_same', cg]) rfl ?_
    exact DecPost.err (by repeat' (first | with_reducible (first | refine bset ?_ ?_ | exact Below.refl _ _ | assumption | refine bdrewN ?_ _ | refine bdrew ?_ | refine balloc0 ?_ | refine balloc ?_ ?_ | (apply btrans0; rotate_left; assumption) | (apply btrans; rotate_left; assumption)) | exact Below.refl _ _ | assumption | (apply btrans0; rotate_left; assumption) | (apply btrans; rotate_left; assumption) | (simp; done) | omega | (simp; omega)))
  subst he
  obtain ⟨⟨x, k, e1⟩, h1⟩ : ∃ q, textS t = q := ⟨_, rfl⟩
  have H1 := Lib.hid h1
  by_cases he1 : e1 = 0
  case neg =>
    have hx : x ≠ magicL := fun h => by have := ((textS_ok h1).2 he1).1; rw [this] at h; cases h
    rw [decB_none h0 (bodyD_name h1 hx)]
    have he2 : (e1 == 0) = false := beq_eq_false_iff_ne.2 he1
    have he3 : (e1 != 0) = true := by rw [bne_iff_ne]; exact he1
    clear he1 hx h1 h0
    go_enter Try.func35, Try.ntmps35
    go_wp2_with fail
    refine (ropen_any s t c 0 _ hs H0.out).mono ?_
    rintro e' w1 ⟨rfl, hb1⟩
    have G1 : w1.heap[w.heap.size]? = some (.cells bun0 28 (0, 0)) := (hb1.block _ (by simp)).trans heap_new
    have cg := fun o => cellB G1 o
    have fg := fun o => frozenB G1 o
    simp only [bun0] at cg
    go_wp2_with fail
    refine (rreadtext_any t x k e1 _ (by omega) H1.out).mono ?_
    rintro e' w2 ⟨rfl, rfl⟩
    go_wp2
    refine bodyPost_ret (v := .tuple #[.agg #[.int .i64 0, .int .i64 0, .int .i64 0, .int .i64 0, .int .i64 0, .int .i64 0, .int .i64 0, .int .i64 0, .int .i64 0, .int .i64 0, .slice none 0 0, .string { data := #[] }], .int .i64 11]) (by simp [results, Try.results35, go_sem, World.cell?_setCell_same', cg]) rfl ?_
    exact DecPost.err (by repeat' (first | with_reducible (first | refine bset ?_ ?_ | exact Below.refl _ _ | assumption | refine bdrewN ?_ _ | refine bdrew ?_ | refine balloc0 ?_ | refine balloc ?_ ?_ | (apply btrans0; rotate_left; assumption) | (apply btrans; rotate_left; assumption)) | exact Below.refl _ _ | assumption | (apply btrans0; rotate_left; assumption) | (apply btrans; rotate_left; assumption) | (simp; done) | omega | (simp; omega)))
  subst he1
  by_cases hx : x = magicL
  case neg =>
    rw [decB_none h0 (bodyD_name h1 hx)]
    have hx' : ¬ x = [77, 66, 49] := hx
    clear hx h1 h0
    go_enter Try.func35, Try.ntmps35
    go_wp2_with fail
    refine (ropen_any s t c 0 _ hs H0.out).mono ?_
    rintro e' w1 ⟨rfl, hb1⟩
    have G1 : w1.heap[w.heap.size]? = some (.cells bun0 28 (0, 0)) := (hb1.block _ (by simp)).trans heap_new
    have cg := fun o => cellB G1 o
    have fg := fun o => frozenB G1 o
    simp only [bun0] at cg
    go_wp2_with fail
    refine (rreadtext_any t x k 0 _ (by omega) H1.out).mono ?_
    rintro e' w2 ⟨rfl, rfl⟩
    go_wp2
    refine bodyPost_ret (v := .tuple #[.agg #[.int .i64 0, .int .i64 0, .int .i64 0, .int .i64 0, .int .i64 0, .int .i64 0, .int .i64 0, .int .i64 0, .int .i64 0, .int .i64 0, .slice none 0 0, .string { data := #[] }], .int .i64 11]) (by simp [results, Try.results35, go_sem, World.cell?_setCell_same', cg]) rfl ?_
    exact DecPost.err (by repeat' (first | with_reducible (first | refine bset ?_ ?_ | exact Below.refl _ _ | assumption | refine bdrewN ?_ _ | refine bdrew ?_ | refine balloc0 ?_ | refine balloc ?_ ?_ | (apply btrans0; rotate_left; assumption) | (apply btrans; rotate_left; assumption)) | exact Below.refl _ _ | assumption | (apply btrans0; rotate_left; assumption) | (apply btrans; rotate_left; assumption) | (simp; done) | omega | (simp; omega)))
  subst hx
  have H1 : Hid (textS t = ([77, 66, 49], k, 0)) := H1
  by_cases hc : c = s.length
  case neg =>
    rw [decB_size h0 hc]
    have hc' : (c != (s.length : Int)) = true := by rw [bne_iff_ne]; exact hc
    have hc2 : (c == (s.length : Int)) = false := beq_eq_false_iff_ne.2 hc
    clear hc h1 h0
    go_enter Try.func35, Try.ntmps35
    go_wp2_with fail
    refine (ropen_any s t c 0 _ hs H0.out).mono ?_
    rintro e' w1 ⟨rfl, hb1⟩
    have G1 : w1.heap[w.heap.size]? = some (.cells bun0 28 (0, 0)) := (hb1.block _ (by simp)).trans heap_new
    have cg := fun o => cellB G1 o
    have fg := fun o => frozenB G1 o
    simp only [bun0] at cg
    go_wp2_with fail
    refine (rreadtext_any t [77, 66, 49] k 0 _ (by omega) H1.out).mono ?_
    rintro e' w2 ⟨rfl, rfl⟩
    go_wp2
    refine bodyPost_ret (v := .tuple #[.agg #[.int .i64 0, .int .i64 0, .int .i64 0, .int .i64 0, .int .i64 0, .int .i64 0, .int .i64 0, .int .i64 0, .int .i64 0, .int .i64 0, .slice none 0 0, .string { data := #[] }], .int .i64 11]) (by simp [results, Try.results35, go_sem, World.cell?_setCell_same', cg]) rfl ?_
    exact DecPost.err (by repeat' (first | with_reducible (first | refine bset ?_ ?_ | exact Below.refl _ _ | assumption | refine bdrewN ?_ _ | refine bdrew ?_ | refine balloc0 ?_ | refine balloc ?_ ?_ | (apply btrans0; rotate_left; assumption) | (apply btrans; rotate_left; assumption)) | exact Below.refl _ _ | assumption | (apply btrans0; rotate_left; assumption) | (apply btrans; rotate_left; assumption) | (simp; done) | omega | (simp; omega)))
  have hc' : (c != (s.length : Int)) = false := by rw [hc]; simp
  have hc2 : (c == (s.length : Int)) = true := by rw [hc]; simp
  have hkk := (textS_ok h1).1 rfl
  obtain ⟨k0, rfl⟩ : ∃ q : Nat, k = q := ⟨k.toNat, by omega⟩
  have hbd := bodyD_rest h1
  rw [Int.toNat_natCast] at hbd
  have HBD := Lib.hid hbd
  have HC := Lib.hid hc
  obtain ⟨⟨D, ED⟩, hD⟩ : ∃ q, decBS s = q := ⟨_, rfl⟩
  have HD := Lib.hid hD
  rw [hD]
  obtain ⟨i0, hin, hz0, hz1, hz2⟩ := info_parts infoInt
  have hkt : k0 ≤ t.length := by omega
  obtain ⟨R, hR⟩ : ∃ r, rdNs 10 (t.drop k0) = r := ⟨_, rfl⟩
  have HR0 := Lib.hid hR
  have HRM : Hid (moreN [] 0 (rdNs 10 (t.drop k0)) = R) := Lib.hid (by rw [← hR]; cases rdNs 10 (t.drop k0) with | none => rfl | some r => simp [moreN])
  have Hnone : Hid (R = none → D = zBun ∧ ED = 11) := Lib.hid (fun h => by
    have e := decB_none h0 (hbd.trans (by rw [hR, h]; rfl))
    rw [hD] at e
    injection e with e1 e2
    exact ⟨e1, e2⟩)
  clear hbd h0 h1 hc hD hR
  go_enter Try.func35, Try.ntmps35
  go_wp2_with fail
  refine (ropen_any s t c 0 _ hs H0.out).mono ?_
  rintro e' w1 ⟨rfl, hb1⟩
  have hB1 : Below w.heap.size w w1 := (by repeat' (first | with_reducible (first | refine bset ?_ ?_ | exact Below.refl _ _ | assumption | refine bdrewN ?_ _ | refine bdrew ?_ | refine balloc0 ?_ | refine balloc ?_ ?_ | (apply btrans0; rotate_left; assumption) | (apply btrans; rotate_left; assumption)) | exact Below.refl _ _ | assumption | (apply btrans0; rotate_left; assumption) | (apply btrans; rotate_left; assumption) | (simp; done) | omega | (simp; omega)))
  have z1 : w.heap.size < w1.heap.size := by have := hb1.size; simp at this; omega
  have G1 : w1.heap[w.heap.size]? = some (.cells bun0 28 (0, 0)) := (hb1.block _ (by simp)).trans heap_new
  have HG1 := Lib.hid G1
  clear hb1 G1
  go_wp2_with fail
  refine (rreadtext_any t [77, 66, 49] k0 0 _ (by omega) H1.out).mono ?_
  rintro e' w2 ⟨rfl, rfl⟩
  go_wp2
  go_loopw [10, 8, 9] (fun i a o wr => ∃ (j p : Nat) (l : List Int), i = .int .i64 j ∧ a = .int .i64 (p : Int) ∧ j ≤ 10 ∧ l.length = j ∧ k0 ≤ p ∧ p ≤ t.length ∧ wr.ownsRow w1.heap.size 3 1 o j (ints l) ∧ Hid (moreN l (p - k0) (rdNs (10 - j) (t.drop p)) = R) ∧ Below w1.heap.size w1 wr) (fun i _ _ _ => 10 - (intOf i).toNat)
  case atStart => exact ⟨0, k0, [], rfl, rfl, by omega, rfl, Nat.le_refl _, hkt, World.ownsRow_made w1 #[] 0 (Nat.le_refl _) (by simp) rfl, Lib.hid (by simpa using HRM.out), balloc0 (Below.refl _ _)⟩
  case round =>
    obtain ⟨j, p, l, rfl, rfl, hj, hl, hp0, hp, hown, HM, hB⟩ := hrel
    have HLN := Lib.hid hl
    have zr : w1.heap.size ≤ wr.heap.size := hB.size
    have hBw : Below w.heap.size w wr := hB1.trans (hB.mono (by omega))
    have GR := (hB.block _ z1).trans HG1.out
    have i0' : (0 : Int) ≤ (p : Int) := by omega
    have i1 : (p : Int) ≤ (t.length : Int) := by omega
    have i3 : (t.drop p).take (t.length - p) = t.drop p := List.take_of_length_le (by rw [List.length_drop]; exact Nat.le_refl _)
    have hld : (t.drop p).length ≤ 1000000000 := by rw [List.length_drop]; omega
    have k0' : (0 : Int) ≤ (j : Int) := by omega
    clear hl
    by_cases hlt : j < 10
    · obtain ⟨⟨n, kk, e⟩, hr⟩ : ∃ r, readS (t.drop p) = r := ⟨_, rfl⟩
      have hm := HM.out
      rw [show 10 - j = 10 - (j + 1) + 1 by omega] at hm
      have hok2 := readS_ok hr
      rw [List.length_drop] at hok2
      have k1 : (j : Int) < 10 := by omega
      by_cases he : e = 0
      case neg =>
        rw [moreN_bad hr he] at hm
        obtain ⟨rfl, rfl⟩ := Hnone.out hm.symm
        have he1 : (e == 0) = false := beq_eq_false_iff_ne.2 he
        have he2 : (e != 0) = true := by rw [bne_iff_ne]; exact he
        have HR := Lib.hid hr
        clear he hm hr hok2
        have cg := fun o => cellB GR o
        have fg := fun o => frozenB GR o
        simp only [bun0] at cg
        go_wp2_with fail
        refine (rreadint_any (t.drop p) n kk e _ (by omega) HR.out).mono ?_
        rintro e' w5 ⟨rfl, rfl⟩
        go_wp2
        refine bodyPost_ret (v := .tuple #[.agg #[.int .i64 0, .int .i64 0, .int .i64 0, .int .i64 0, .int .i64 0, .int .i64 0, .int .i64 0, .int .i64 0, .int .i64 0, .int .i64 0, .slice none 0 0, .string { data := #[] }], .int .i64 11]) (by simp [results, Try.results35, go_sem, World.cell?_setCell_same', cg]) rfl ?_
        exact DecPost.err (by repeat' (first | with_reducible (first | refine bset ?_ ?_ | exact Below.refl _ _ | assumption | refine bdrewN ?_ _ | refine bdrew ?_ | refine balloc0 ?_ | refine balloc ?_ ?_ | (apply btrans0; rotate_left; assumption) | (apply btrans; rotate_left; assumption)) | exact Below.refl _ _ | assumption | (apply btrans0; rotate_left; assumption) | (apply btrans; rotate_left; assumption) | (simp; done) | omega | (simp; omega)))
      subst he
      rw [moreN_step hr] at hm
      obtain ⟨q1, q2, q3, _, _⟩ := hok2.1 rfl
      obtain ⟨m, rfl⟩ : ∃ m : Nat, kk = m := ⟨kk.toNat, by omega⟩
      rw [Int.toNat_natCast, List.drop_drop] at hm
      have HR := Lib.hid hr
      have HMM := Lib.hid hm
      have hw : IntKind.i64.wrap ((p : Int) + (m : Int)) = ((p + m : Nat) : Int) := by rw [IntKind.wrap_i64]; omega
      clear hm hr hok2
      go_wp2_with fail
      refine (rreadint_any (t.drop p) n m 0 _ (by omega) HR.out).mono ?_
      rintro e' w5 ⟨rfl, rfl⟩
      go_wp2_with (at_builtin; refine wpList_append_own _ rfl _ _ _ rfl w1.heap.size 3 i0 _ 1 8 Try.underlying36 hin hz0 hz1 hz2 rfl (by omega) _ _ _ rfl (hown.alloc _) ⟨wr.heap.size, 0, none⟩ 1 1 [.int .i64 n] rfl rfl (news_one heap_new) (by simp [Value.oneCell']) (by simp only [maxLen]; omega) (by omega) (by simp; omega) ?_; intro v' w6 hO6 hg6 _)
      have hB6 : Below w1.heap.size w1 w6 := (balloc hB (by omega)).grown hg6 (by simp; omega) (fun q hq => (hown.lt q hq).1)
      go_roundw
      case rel =>
        refine ⟨j + 1, p + m, l ++ [n], by go_num, by go_num, by omega, by rw [List.length_append, HLN.out]; rfl, by omega, by omega, ?_, Lib.hid ?_, hB6⟩
        · have : ints (l ++ [n]) = ints l ++ [.int .i64 n] := by simp [ints]
          rw [this]; exact hO6
        · rw [show p + m - k0 = p - k0 + m by omega]; exact HMM.out
      case measure => simp [intOf]; omega
    · obtain rfl : j = 10 := by omega
      have hm := HM.out
      rw [show 10 - 10 = 0 from rfl, rdNs] at hm
      simp only [moreN, List.append_nil, Nat.add_zero] at hm
      subst hm
      have hres := HBD.out
      rw [HR0.out] at hres
      obtain ⟨⟨bl, kb, eb⟩, hd⟩ : ∃ q, decAS (t.drop p) = q := ⟨_, rfl⟩
      have hkl := decAS_len hd
      rw [List.length_drop] at hkl
      unfold restD at hres
      simp only at hres
      rw [show k0 + (p - k0) = p by omega, hd] at hres
      simp only at hres
      have HDA := Lib.hid hd
      rcases hown.2 with ⟨_, hz⟩ | ⟨g, cap, cur, rfl, hbg, hgg, hn1, hcm, hcs, htk⟩
      · simp at hz
      obtain ⟨n0, n1, n2, n3, n4, n5, n6, n7, n8, n9, rfl⟩ := list10 HLN.out
      have hgl : g < wr.heap.size := (Array.getElem?_eq_some_iff.1 hgg).1
      have hcell : ∀ q u, (ints [n0, n1, n2, n3, n4, n5, n6, n7, n8, n9])[q]? = some u → wr.cell? ⟨g, q, none⟩ = some u := fun q u hq => by
        have := hown.cells (g := g) rfl q u hq
        rwa [addN, Nat.zero_add] at this
      have HCL := Lib.hid hcell
      have HGR := Lib.hid GR
      clear hd hgg htk hcell
      by_cases he : eb = 0
      case neg =>
        rw [if_pos he] at hres
        have e := decB_none H0.out hres
        rw [HD.out] at e
        injection e with e1 e2
        subst e1 e2
        have he1 : (eb == 0) = false := beq_eq_false_iff_ne.2 he
        have he2 : (eb != 0) = true := by rw [bne_iff_ne]; exact he
        clear he hres
        go_wp2_with fail
        refine (rdecodeAll_any (t.drop p) bl kb eb _ hld HDA.out).mono ?_
        rintro e' w5 ⟨v, rfl, _, hb5, _⟩
        have G5 := (hb5.block _ (by omega)).trans HGR.out
        have cg := fun o => cellB G5 o
        have fg := fun o => frozenB G5 o
        simp only [bun0] at cg
        go_wp2
        refine bodyPost_ret (v := .tuple #[.agg #[.int .i64 0, .int .i64 0, .int .i64 0, .int .i64 0, .int .i64 0, .int .i64 0, .int .i64 0, .int .i64 0, .int .i64 0, .int .i64 0, .slice none 0 0, .string { data := #[] }], .int .i64 11]) (by simp [results, Try.results35, go_sem, World.cell?_setCell_same', cg]) rfl ?_
        exact DecPost.err (by repeat' (first | with_reducible (first | refine bset ?_ ?_ | exact Below.refl _ _ | assumption | refine bdrewN ?_ _ | refine bdrew ?_ | refine balloc0 ?_ | refine balloc ?_ ?_ | (apply btrans0; rotate_left; assumption) | (apply btrans; rotate_left; assumption)) | exact Below.refl _ _ | assumption | (apply btrans0; rotate_left; assumption) | (apply btrans; rotate_left; assumption) | (simp; done) | omega | (simp; omega)))
      subst he
      rw [if_neg (by simp)] at hres
      obtain ⟨⟨y, ky, ey⟩, hy⟩ : ∃ q, textS (t.drop (p + kb)) = q := ⟨_, rfl⟩
      have hyk := textS_ok0 hy
      rw [List.length_drop] at hyk
      rw [hy] at hres
      simp only at hres
      have HY := Lib.hid hy
      have hw : IntKind.i64.wrap ((p : Int) + (kb : Int)) = ((p + kb : Nat) : Int) := by rw [IntKind.wrap_i64]; omega
      have j0 : (0 : Int) ≤ ((p + kb : Nat) : Int) := by omega
      have j1 : ((p + kb : Nat) : Int) ≤ (t.length : Int) := by omega
      have j3 : (t.drop (p + kb)).take (t.length - (p + kb)) = t.drop (p + kb) := List.take_of_length_le (by rw [List.length_drop]; exact Nat.le_refl _)
      have hld2 : (t.drop (p + kb)).length ≤ 1000000000 := by rw [List.length_drop]; omega
      have Hfit : Hid (Fits ⟨n0, n1, n2, n3, n4, n5, n6, n7, n8, n9, bl, y⟩) := Lib.hid (by
        refine ⟨?_, blks_fit (enc_decA HDA.out).2.2⟩
        show y.length ≤ maxLen
        unfold maxLen
        by_cases q : ey = 0
        · subst q; have := ((textS_ok hy).1 rfl).2.2; omega
        · rw [((textS_ok hy).2 q).1]; simp)
      clear hy
      go_wp2_with fail
      refine (rdecodeAll_any (t.drop p) bl kb 0 _ hld HDA.out).mono ?_
      rintro e' w5 ⟨v, rfl, hv, hb5, fv⟩
      obtain ⟨va, vc, rfl, _⟩ := id hv
      have HV := Lib.hid hv
      have HF := Lib.hid fv
      have G5 := (hb5.block _ (by omega)).trans HGR.out
      have z5 : wr.heap.size ≤ w5.heap.size := hb5.size
      have hc5 : ∀ q u, (ints [n0, n1, n2, n3, n4, n5, n6, n7, n8, n9])[q]? = some u → w5.cell? ⟨g, q, none⟩ = some u := fun q u hq => (hb5.cell (p := ⟨g, q, none⟩) hgl).trans (HCL.out q u hq)
      have HC5 := Lib.hid hc5
      have HG5 := Lib.hid G5
      have hB5 : Below w.heap.size w w5 := (by repeat' (first | with_reducible (first | refine bset ?_ ?_ | exact Below.refl _ _ | assumption | refine bdrewN ?_ _ | refine bdrew ?_ | refine balloc0 ?_ | refine balloc ?_ ?_ | (apply btrans0; rotate_left; assumption) | (apply btrans; rotate_left; assumption)) | exact Below.refl _ _ | assumption | (apply btrans0; rotate_left; assumption) | (apply btrans; rotate_left; assumption) | (simp; done) | omega | (simp; omega)))
      clear hv fv hb5 hc5 G5
      have cg := fun o => cellB HG5.out o
      have fg := fun o => frozenB HG5.out o
      simp only [bun0] at cg
      have i0s : (0 : Int) ≤ (p : Int) + (kb : Int) := by omega
      have i1s : (p : Int) + (kb : Int) ≤ (t.length : Int) := by omega
      by_cases he : ey = 0
      case neg =>
        rw [if_pos he] at hres
        have e := decB_none H0.out hres
        rw [HD.out] at e
        injection e with e1 e2
        subst e1 e2
        have he1 : (ey == 0) = false := beq_eq_false_iff_ne.2 he
        have he2 : (ey != 0) = true := by rw [bne_iff_ne]; exact he
        clear he hres
        go_wp2_with fail
        refine (rreadtext_any (t.drop (p + kb)) y ky ey _ (by omega) HY.out).mono ?_
        rintro e' w6 ⟨rfl, rfl⟩
        go_wp2
        refine bodyPost_ret (v := .tuple #[.agg #[.int .i64 0, .int .i64 0, .int .i64 0, .int .i64 0, .int .i64 0, .int .i64 0, .int .i64 0, .int .i64 0, .int .i64 0, .int .i64 0, .slice none 0 0, .string { data := #[] }], .int .i64 11]) (by simp [results, Try.results35, go_sem, World.cell?_setCell_same', cg]) rfl ?_
        exact DecPost.err (by repeat' (first | with_reducible (first | refine bset ?_ ?_ | exact Below.refl _ _ | assumption | refine bdrewN ?_ _ | refine bdrew ?_ | refine balloc0 ?_ | refine balloc ?_ ?_ | (apply btrans0; rotate_left; assumption) | (apply btrans; rotate_left; assumption)) | exact Below.refl _ _ | assumption | (apply btrans0; rotate_left; assumption) | (apply btrans; rotate_left; assumption) | (simp; done) | omega | (simp; omega)))
      subst he
      rw [if_neg (by simp)] at hres
      obtain ⟨m, rfl⟩ : ∃ m : Nat, ky = m := ⟨ky.toNat, by omega⟩
      rw [Int.toNat_natCast] at hres
      have hwm : IntKind.i64.wrap (((p + kb : Nat) : Int) + (m : Int)) = ((p + kb + m : Nat) : Int) := by rw [IntKind.wrap_i64]; omega
      by_cases hal : p + kb + m = t.length
      case neg =>
        rw [if_pos hal] at hres
        have e := decB_none H0.out hres
        rw [HD.out] at e
        injection e with e1 e2
        subst e1 e2
        have ha1 : (((p : Int) + (kb : Int) + (m : Int)) != (t.length : Int)) = true := by rw [bne_iff_ne]; omega
        have ha2 : (((p : Int) + (kb : Int) + (m : Int)) == (t.length : Int)) = false := beq_eq_false_iff_ne.2 (by omega)
        clear hal hres
        go_wp2_with fail
        refine (rreadtext_any (t.drop (p + kb)) y m 0 _ (by omega) HY.out).mono ?_
        rintro e' w6 ⟨rfl, rfl⟩
        go_wp2
        refine bodyPost_ret (v := .tuple #[.agg #[.int .i64 0, .int .i64 0, .int .i64 0, .int .i64 0, .int .i64 0, .int .i64 0, .int .i64 0, .int .i64 0, .int .i64 0, .int .i64 0, .slice none 0 0, .string { data := #[] }], .int .i64 11]) (by simp [results, Try.results35, go_sem, World.cell?_setCell_same', cg]) rfl ?_
        exact DecPost.err (by repeat' (first | with_reducible (first | refine bset ?_ ?_ | exact Below.refl _ _ | assumption | refine bdrewN ?_ _ | refine bdrew ?_ | refine balloc0 ?_ | refine balloc ?_ ?_ | (apply btrans0; rotate_left; assumption) | (apply btrans; rotate_left; assumption)) | exact Below.refl _ _ | assumption | (apply btrans0; rotate_left; assumption) | (apply btrans; rotate_left; assumption) | (simp; done) | omega | (simp; omega)))
      rw [if_neg (by simp [hal]), show mkBun [n0, n1, n2, n3, n4, n5, n6, n7, n8, n9] bl y = ⟨n0, n1, n2, n3, n4, n5, n6, n7, n8, n9, bl, y⟩ from rfl] at hres
      have ha1 : (((p : Int) + (kb : Int) + (m : Int)) != (t.length : Int)) = false := by rw [← hal]; simp
      have ha2 : (((p : Int) + (kb : Int) + (m : Int)) == (t.length : Int)) = true := beq_iff_eq.2 (by omega)
      clear hal
      have d0 := HC5.out 0 _ rfl
      have d1 := HC5.out 1 _ rfl
      have d2 := HC5.out 2 _ rfl
      have d3 := HC5.out 3 _ rfl
      have d4 := HC5.out 4 _ rfl
      have d5 := HC5.out 5 _ rfl
      have d6 := HC5.out 6 _ rfl
      have d7 := HC5.out 7 _ rfl
      have d8 := HC5.out 8 _ rfl
      have d9 := HC5.out 9 _ rfl
      go_wp2_with fail
      refine (rreadtext_any (t.drop (p + kb)) y m 0 _ (by omega) HY.out).mono ?_
      rintro e' w6 ⟨rfl, rfl⟩
      go_wp2
      refine wp_region_plan (fun V => V.cell? ⟨g, 0, none⟩ = some (.int .i64 n0) ∧ V.cell? ⟨g, 1, none⟩ = some (.int .i64 n1) ∧ V.cell? ⟨g, 2, none⟩ = some (.int .i64 n2) ∧ V.cell? ⟨g, 3, none⟩ = some (.int .i64 n3) ∧ V.cell? ⟨g, 4, none⟩ = some (.int .i64 n4) ∧ V.cell? ⟨g, 5, none⟩ = some (.int .i64 n5) ∧ V.cell? ⟨g, 6, none⟩ = some (.int .i64 n6) ∧ V.cell? ⟨g, 7, none⟩ = some (.int .i64 n7) ∧ V.cell? ⟨g, 8, none⟩ = some (.int .i64 n8) ∧ V.cell? ⟨g, 9, none⟩ = some (.int .i64 n9)) [0, 0, 1, 0, 0, 1, 0, 0, 1, 0, 0, 1, 0, 0, 1, 0, 0, 0, 1, 0, 0, 1, 0, 0, 0, 1, 0, 0, 1, 0, 0, 1, 0, 0, 0, 2, 3] [0, 1, 2, 3, 4, 5, 6, 7, 8, 9, 10, 11, 12, 13, 14, 15, 16, 17, 18, 19, 20, 21, 22, 23, 24, 25, 26, 27, 28, 29, 30, 31, 32, 33, 34, 35, 36] (by kernel_rfl) (by kernel_rfl) ?_ ?_
      case refine_1 => exact ⟨d0, d1, d2, d3, d4, d5, d6, d7, d8, d9⟩
      have hg5 : g < w5.heap.size := by omega
      (iterate 35 (refine plan_held rfl (by decide) (by rfl) (fun w1 hS => by (try (have hS := hS rfl; obtain hS := hS; repeat (obtain ⟨_, hS⟩ := hS))); go_simp; rfl) ?_; simp only [Act.put, List.setIfInBounds_toArray, List.set_cons_zero, List.set_cons_succ]))
      (refine plan_keep rfl rfl (by rfl) (fun K hK => ?_); go_simp)
      (refine hK _ _ (by go_simp) ?_; clear hK K; (try simp only [Act.put, List.setIfInBounds_toArray, List.set_cons_zero, List.set_cons_succ]))
      (refine plan_late rfl rfl (by rfl) (fun K hK => ?_); go_simp)
      (refine hK _ _ ?_; clear hK K; (try simp only [Act.put, List.setIfInBounds_toArray, List.set_cons_zero, List.set_cons_succ]))
      refine plan_done ?_
      have hB6 : Below w.heap.size w (w5.alloc (.cells #[.int .i64 n0, .int .i64 n1, .int .i64 n2, .int .i64 n3, .int .i64 n4, .int .i64 n5, .int .i64 n6, .int .i64 n7, .int .i64 n8, .int .i64 n9, .slice va bl.length vc, .string (B y)] 28)).drew := bdrew (balloc hB5 (by omega))
      have HV6 := Lib.hid (HV.out.below (C := w5.heap.size) (bdrew (balloc (Below.refl _ _) (Nat.le_refl _)) : Below w5.heap.size w5 (w5.alloc (.cells #[.int .i64 n0, .int .i64 n1, .int .i64 n2, .int .i64 n3, .int .i64 n4, .int .i64 n5, .int .i64 n6, .int .i64 n7, .int .i64 n8, .int .i64 n9, .slice va bl.length vc, .string (B y)] 28)).drew) (Nat.le_refl _) (by simp : w5.heap.size ≤ (w5.alloc (.cells #[.int .i64 n0, .int .i64 n1, .int .i64 n2, .int .i64 n3, .int .i64 n4, .int .i64 n5, .int .i64 n6, .int .i64 n7, .int .i64 n8, .int .i64 n9, .slice va bl.length vc, .string (B y)] 28)).drew.heap.size))
      obtain ⟨CE, hCE⟩ : ∃ q, chkE ⟨n0, n1, n2, n3, n4, n5, n6, n7, n8, n9, bl, y⟩ = q := ⟨_, rfl⟩
      rw [hCE] at hres
      have HCE := Lib.hid hCE
      by_cases hz : CE = 0
      case neg =>
        rw [if_pos hz] at hres
        have e := decB_none H0.out hres
        rw [HD.out] at e
        injection e with e1 e2
        subst e1 e2
        have hz1 : (CE != 0) = true := by rw [bne_iff_ne]; exact hz
        clear hres hz hCE
        go_wp2_with fail
        refine (rcheck_any ⟨n0, n1, n2, n3, n4, n5, n6, n7, n8, n9, bl, y⟩ _ _ HV6.out Hfit.out).mono ?_
        rw [HCE.out]
        rintro e' w8 ⟨rfl, hb8⟩
        have G8 := (hb8.block _ (by simp; omega)).trans ((Below.heap_alloc _ _ _ (by omega : w.heap.size < w5.heap.size)).trans HG5.out)
        have cg := fun o => cellB G8 o
        have fg := fun o => frozenB G8 o
        simp only [bun0] at cg
        go_wp2
        refine bodyPost_ret (v := .tuple #[.agg #[.int .i64 0, .int .i64 0, .int .i64 0, .int .i64 0, .int .i64 0, .int .i64 0, .int .i64 0, .int .i64 0, .int .i64 0, .int .i64 0, .slice none 0 0, .string { data := #[] }], .int .i64 11]) (by simp [results, Try.results35, go_sem, World.cell?_setCell_same', cg]) rfl ?_
        exact DecPost.err (by repeat' (first | with_reducible (first | refine bset ?_ ?_ | exact Below.refl _ _ | assumption | refine bdrewN ?_ _ | refine bdrew ?_ | refine balloc0 ?_ | refine balloc ?_ ?_ | (apply btrans0; rotate_left; assumption) | (apply btrans; rotate_left; assumption)) | exact Below.refl _ _ | assumption | (apply btrans0; rotate_left; assumption) | (apply btrans; rotate_left; assumption) | (simp; done) | omega | (simp; omega)))
      subst hz
      rw [if_neg (by simp)] at hres
      have e := decB_some H0.out HC.out hres
      rw [HD.out] at e
      injection e with e1 e2
      subst e1 e2
      clear hres hCE
      go_wp2_with fail
      refine (rcheck_any ⟨n0, n1, n2, n3, n4, n5, n6, n7, n8, n9, bl, y⟩ _ _ HV6.out Hfit.out).mono ?_
      rw [HCE.out]
      rintro e' w8 ⟨rfl, hb8⟩
      have G8 := (hb8.block _ (by simp; omega)).trans ((Below.heap_alloc _ _ _ (by omega : w.heap.size < w5.heap.size)).trans HG5.out)
      have X8 : w8.heap[w5.heap.size]? = some (.cells #[.int .i64 n0, .int .i64 n1, .int .i64 n2, .int .i64 n3, .int .i64 n4, .int .i64 n5, .int .i64 n6, .int .i64 n7, .int .i64 n8, .int .i64 n9, .slice va bl.length vc, .string (B y)] 28 (0, 0)) := (hb8.block _ (by simp)).trans heap_new
      have z8 : w5.heap.size < w8.heap.size := by have := hb8.size; simp at this; omega
      have HV9 := Lib.hid (HV6.out.below hb8 (Nat.le_refl _) hb8.size)
      have hB8 : Below w.heap.size w w8 := (by repeat' (first | with_reducible (first | refine bset ?_ ?_ | exact Below.refl _ _ | assumption | refine bdrewN ?_ _ | refine bdrew ?_ | refine balloc0 ?_ | refine balloc ?_ ?_ | (apply btrans0; rotate_left; assumption) | (apply btrans; rotate_left; assumption)) | exact Below.refl _ _ | assumption | (apply btrans0; rotate_left; assumption) | (apply btrans; rotate_left; assumption) | (simp; done) | omega | (simp; omega)))
      have cx := fun o => cellB X8 o
      clear hb8 X8 cg fg
      have cg := fun o => cellB G8 o
      have fg := fun o => frozenB G8 o
      simp only [bun0] at cg
      clear G8
      go_wp2
      refine bodyPost_ret (v := .tuple #[.agg #[.int .i64 n0, .int .i64 n1, .int .i64 n2, .int .i64 n3, .int .i64 n4, .int .i64 n5, .int .i64 n6, .int .i64 n7, .int .i64 n8, .int .i64 n9, .slice va bl.length vc, .string (B y)], .int .i64 0]) (by simp [results, Try.results35, go_sem, World.cell?_setCell_same', cg]) rfl ?_
      refine ⟨.slice va bl.length vc, rfl, ?_, HF.out.mono (by omega), (by repeat' (first | with_reducible (first | refine bset ?_ ?_ | exact Below.refl _ _ | assumption | refine bdrewN ?_ _ | refine bdrew ?_ | refine balloc0 ?_ | refine balloc ?_ ?_ | (apply btrans0; rotate_left; assumption) | (apply btrans; rotate_left; assumption)) | exact Below.refl _ _ | assumption | (apply btrans0; rotate_left; assumption) | (apply btrans; rotate_left; assumption) | (simp; done) | omega | (simp; omega)))⟩
      refine HV9.out.keepFrom HF.out (fun b o h1 h2 => ?_) (by simp)
      have : w.heap.size ≠ b := by omega
      simp (disch := (simp; omega)) only [World.cell?_setCell_far]
end Go.Proofs.Ytpkklmkeflddkaa
