/- Layer 20 (report): the records' codes; Decode, the program's and the reference's. -/
import Derived.Test.YtcmkpnjbnjbegaaDoorVb
set_option linter.unusedVariables false
set_option linter.unusedSimpArgs false
namespace Go.Proofs.YtcmkpnjbnjbegaaDoor
open Go Go.RowKit
attribute [local go_sem] B_getElem B_size B_app B_extract B_get B_toList

/-- the record in a frame -/
def repBD (t : List UInt8) : Option Rep :=
  if (textS t).2.2 ≠ 0 ∨ (textS t).1 ≠ magicR then none
  else match rdNs 9 (t.drop (textS t).2.1.toNat) with
    | none => none
    | some r => if (textS t).2.1.toNat + r.2 ≠ t.length then none else if repE (mkRep r.1) ≠ 0 then none else some (mkRep r.1)
/-- what Decode answers -/
def repDS (s : List UInt8) : Rep × Int :=
  if (openS tailB s).2.2 ≠ 0 ∨ (openS tailB s).2.1 ≠ s.length then (zRep, 11)
  else match repBD (openS tailB s).1 with
    | none => (zRep, 11)
    | some r => (r, 0)
theorem repDS_open {s t : List UInt8} {c e : Int} (h : openS tailB s = (t, c, e)) (he : e ≠ 0 ∨ c ≠ s.length) : repDS s = (zRep, 11) := by unfold repDS; rw [h]; exact if_pos he
theorem repDS_none {s t : List UInt8} {c e : Int} (h : openS tailB s = (t, c, e)) (hb : repBD t = none) : repDS s = (zRep, 11) := by
  unfold repDS; rw [h]; simp only; rw [hb]; split <;> rfl
theorem repDS_some {s t : List UInt8} {c : Int} {r : Rep} (h : openS tailB s = (t, c, 0)) (hc : c = s.length) (hb : repBD t = some r) : repDS s = (r, 0) := by
  unfold repDS; rw [h]; simp only; rw [if_neg (by simp [hc]), hb]
theorem repBD_name {t x : List UInt8} {k e : Int} (h : textS t = (x, k, e)) (hx : e ≠ 0 ∨ x ≠ magicR) : repBD t = none := by unfold repBD; rw [h]; exact if_pos hx
theorem repBD_rest {t : List UInt8} {k : Int} (h : textS t = (magicR, k, 0)) : repBD t = match rdNs 9 (t.drop k.toNat) with
    | none => none
    | some r => if k.toNat + r.2 ≠ t.length then none else if repE (mkRep r.1) ≠ 0 then none else some (mkRep r.1) := by
  unfold repBD; rw [h]; simp only; rw [if_neg (by simp)]
theorem rep_write {r : Rep} (h : repE r = 0) : repBD (repBody r) = some r := by
  have h1 := read_text magicR ((repL r).flatMap intE) (by decide)
  have h2 := rdNs_enc (repL r) [] (repL_ok h)
  rw [List.append_nil, repL_len] at h2
  have hb : textS (repBody r) = (magicR, ((textE magicR).length : Int), 0) := h1
  have hd : (repBody r).drop (textE magicR).length = (repL r).flatMap intE := drop_app rfl
  rw [repBD_rest hb, Int.toNat_natCast, hd, h2]
  simp only
  rw [if_neg (by unfold repBody; simp only [List.length_append]; omega), mk_repL, if_neg (by simp [h])]
theorem rep_read {t : List UInt8} {r : Rep} (h : repBD t = some r) : t = repBody r ∧ repE r = 0 := by
  obtain ⟨⟨x, k, e⟩, hx⟩ : ∃ q, textS t = q := ⟨_, rfl⟩
  by_cases hn : e ≠ 0 ∨ x ≠ magicR
  · rw [repBD_name hx hn] at h; cases h
  rw [not_or] at hn
  obtain rfl : e = 0 := Decidable.not_not.1 hn.1
  obtain rfl : x = magicR := Decidable.not_not.1 hn.2
  rw [repBD_rest hx] at h
  obtain ⟨⟨r1, rfl⟩, rfl, _⟩ := text_read hx
  simp only [Int.toNat_natCast, List.drop_left] at h
  cases hl : rdNs 9 r1 with
  | none => rw [hl] at h; cases h
  | some q =>
    obtain ⟨l, m⟩ := q
    rw [hl] at h
    simp only at h
    obtain ⟨⟨r2, rfl⟩, rfl, hlen⟩ := enc_rdNs _ _ _ _ hl
    split at h
    · cases h
    rename_i h4
    split at h
    · cases h
    rename_i h5
    injection h with h
    subst h
    have h4' := Decidable.not_not.1 h4
    simp only [List.length_append] at h4'
    have : r2 = [] := List.length_eq_zero_iff.1 (by omega)
    subst this
    refine ⟨?_, Decidable.not_not.1 h5⟩
    unfold repBody
    rw [repL_mk hlen, List.append_nil]
theorem repDS_enc {r : Rep} (h : repE r = 0) : repDS (repR r) = (r, 0) := by
  have ho := open_seal (repBody r) [] (by have := repBody_len r; omega)
  rw [List.append_nil] at ho
  rw [repR_ok h]
  exact repDS_some ho rfl (rep_write h)
theorem enc_repDS {s : List UInt8} {r : Rep} (h : repDS s = (r, 0)) : s = repR r ∧ repE r = 0 := by
  obtain ⟨⟨t, c, e⟩, ho⟩ : ∃ q, openS tailB s = q := ⟨_, rfl⟩
  by_cases he : e ≠ 0 ∨ c ≠ s.length
  · rw [repDS_open ho he] at h; injection h with _ h2; exact absurd h2 (by decide)
  rw [not_or] at he
  obtain rfl : e = 0 := Decidable.not_not.1 he.1
  have hc : c = s.length := Decidable.not_not.1 he.2
  cases hb : repBD t with
  | none => rw [repDS_none ho hb] at h; injection h with _ h2; exact absurd h2 (by decide)
  | some q =>
    rw [repDS_some ho hc hb] at h
    injection h with h1 _
    subst h1
    obtain ⟨h3, h4⟩ := rep_read hb
    subst h3
    obtain ⟨⟨r2, hs⟩, hk, _⟩ := seal_open ho
    have hl := congrArg List.length hs
    rw [List.length_append] at hl
    have : r2 = [] := List.length_eq_zero_iff.1 (by omega)
    subst this
    rw [repR_ok h4]
    exact ⟨by rw [hs, List.append_nil], h4⟩
theorem repDS_err {s : List UInt8} {r : Rep} {e : Int} (h : repDS s = (r, e)) (he : e ≠ 0) : r = zRep ∧ e = 11 := by
  unfold repDS at h
  split at h
  · injection h with h1 h2; exact ⟨h1.symm, h2.symm⟩
  · split at h
    · injection h with h1 h2; exact ⟨h1.symm, h2.symm⟩
    · injection h with _ h2; exact absurd h2.symm he
def RepPost (r : Rep) (E : Int) (w : World) (e : Ending) (w' : World) : Prop := e = .returned (.tuple #[repV r, .int .i64 E]) ∧ Below w.heap.size w w'
theorem list9 {α : Type} {xs : List α} (h : xs.length = 9) : ∃ a b c d e f g i j, xs = [a, b, c, d, e, f, g, i, j] := by
  match xs, h with
  | [a, b, c, d, e, f, g, i, j], _ => exact ⟨a, b, c, d, e, f, g, i, j, rfl⟩

set_option maxRecDepth 100000 in
set_option maxHeartbeats 6000000 in
theorem rrepDecode_any (s : List UInt8) (w : World) (hs : s.length ≤ 1000000000) :
    Calls Tryd.prog 19 #[.string (B s)] w (RepPost (repDS s).1 (repDS s).2 w) := by
  obtain ⟨⟨t, c, e0⟩, h0⟩ : ∃ q, openS tailB s = q := ⟨_, rfl⟩
  have hok := openS_len h0
  have ht : t.length ≤ 1000000000 := by omega
  have H0 := Lib.hid h0
  by_cases he : e0 = 0
  case neg =>
    rw [repDS_open h0 (.inl he)]
    have he1 : (e0 == 0) = false := beq_eq_false_iff_ne.2 he
    have he2 : (e0 != 0) = true := by rw [bne_iff_ne]; exact he
    clear he h0
    go_enter Tryd.func19, Tryd.ntmps19
    go_wp2_with fail
    refine (ropen_any s t c e0 _ hs H0.out).mono ?_
    rintro e' w1 ⟨rfl, hb1⟩
    have G1 : w1.heap[w.heap.size]? = some (.cells #[.int .i64 0, .int .i64 0, .int .i64 0, .int .i64 0, .int .i64 0, .int .i64 0, .int .i64 0, .int .i64 0, .int .i64 0] 25 (0, 0)) := (hb1.block _ (by simp)).trans heap_new
    have cg := fun o => cellB G1 o
    have fg := fun o => frozenB G1 o
    go_wp2
    refine bodyPost_ret (v := .tuple #[.agg #[.int .i64 0, .int .i64 0, .int .i64 0, .int .i64 0, .int .i64 0, .int .i64 0, .int .i64 0, .int .i64 0, .int .i64 0], .int .i64 11]) (by simp [results, Tryd.results19, go_sem, World.cell?_setCell_same', cg]) rfl ?_
    exact ⟨rfl, (by repeat' (first | (with_reducible refine bset ?_ ?_) | (with_reducible exact Below.refl _ _) | (with_reducible assumption) | (with_reducible refine bdrewN ?_ _) | (with_reducible refine bdrew ?_) | (with_reducible refine balloc0 ?_) | (with_reducible refine balloc ?_ ?_) | (with_reducible apply btrans0; rotate_left; with_reducible assumption) | (with_reducible apply btrans; rotate_left; with_reducible assumption) | exact Below.refl _ _ | assumption | (apply btrans0; rotate_left; assumption) | (apply btrans; rotate_left; assumption) | (simp; done) | omega | (simp; omega)))⟩
  subst he
  by_cases hc : c = s.length
  case neg =>
    rw [repDS_open h0 (.inr hc)]
    have hc1 : (c != (s.length : Int)) = true := by rw [bne_iff_ne]; exact hc
    have hc2 : (c == (s.length : Int)) = false := beq_eq_false_iff_ne.2 hc
    clear hc h0
    go_enter Tryd.func19, Tryd.ntmps19
    go_wp2_with fail
    refine (ropen_any s t c 0 _ hs H0.out).mono ?_
    rintro e' w1 ⟨rfl, hb1⟩
    have G1 : w1.heap[w.heap.size]? = some (.cells #[.int .i64 0, .int .i64 0, .int .i64 0, .int .i64 0, .int .i64 0, .int .i64 0, .int .i64 0, .int .i64 0, .int .i64 0] 25 (0, 0)) := (hb1.block _ (by simp)).trans heap_new
    have cg := fun o => cellB G1 o
    have fg := fun o => frozenB G1 o
    go_wp2
    refine bodyPost_ret (v := .tuple #[.agg #[.int .i64 0, .int .i64 0, .int .i64 0, .int .i64 0, .int .i64 0, .int .i64 0, .int .i64 0, .int .i64 0, .int .i64 0], .int .i64 11]) (by simp [results, Tryd.results19, go_sem, World.cell?_setCell_same', cg]) rfl ?_
    exact ⟨rfl, (by repeat' (first | (with_reducible refine bset ?_ ?_) | (with_reducible exact Below.refl _ _) | (with_reducible assumption) | (with_reducible refine bdrewN ?_ _) | (with_reducible refine bdrew ?_) | (with_reducible refine balloc0 ?_) | (with_reducible refine balloc ?_ ?_) | (with_reducible apply btrans0; rotate_left; with_reducible assumption) | (with_reducible apply btrans; rotate_left; with_reducible assumption) | exact Below.refl _ _ | assumption | (apply btrans0; rotate_left; assumption) | (apply btrans; rotate_left; assumption) | (simp; done) | omega | (simp; omega)))⟩
  have hc1 : (c != (s.length : Int)) = false := by rw [hc]; simp
  have hc2 : (c == (s.length : Int)) = true := by rw [hc]; simp
  have HC := Lib.hid hc
  clear hc
  obtain ⟨⟨x, k, e1⟩, h1⟩ : ∃ q, textS t = q := ⟨_, rfl⟩
  have H1 := Lib.hid h1
  by_cases he1 : e1 = 0
  case neg =>
    rw [repDS_none h0 (repBD_name h1 (.inl he1))]
    have he2 : (e1 == 0) = false := beq_eq_false_iff_ne.2 he1
    have he3 : (e1 != 0) = true := by rw [bne_iff_ne]; exact he1
    clear he1 h1 h0
    go_enter Tryd.func19, Tryd.ntmps19
    go_wp2_with fail
    refine (ropen_any s t c 0 _ hs H0.out).mono ?_
    rintro e' w1 ⟨rfl, hb1⟩
    have G1 : w1.heap[w.heap.size]? = some (.cells #[.int .i64 0, .int .i64 0, .int .i64 0, .int .i64 0, .int .i64 0, .int .i64 0, .int .i64 0, .int .i64 0, .int .i64 0] 25 (0, 0)) := (hb1.block _ (by simp)).trans heap_new
    have cg := fun o => cellB G1 o
    have fg := fun o => frozenB G1 o
    go_wp2_with fail
    refine (rreadtext_any t x k e1 _ (by omega) H1.out).mono ?_
    rintro e' w2 ⟨rfl, rfl⟩
    skip
    go_wp2
    refine bodyPost_ret (v := .tuple #[.agg #[.int .i64 0, .int .i64 0, .int .i64 0, .int .i64 0, .int .i64 0, .int .i64 0, .int .i64 0, .int .i64 0, .int .i64 0], .int .i64 11]) (by simp [results, Tryd.results19, go_sem, World.cell?_setCell_same', cg]) rfl ?_
    exact ⟨rfl, (by repeat' (first | (with_reducible refine bset ?_ ?_) | (with_reducible exact Below.refl _ _) | (with_reducible assumption) | (with_reducible refine bdrewN ?_ _) | (with_reducible refine bdrew ?_) | (with_reducible refine balloc0 ?_) | (with_reducible refine balloc ?_ ?_) | (with_reducible apply btrans0; rotate_left; with_reducible assumption) | (with_reducible apply btrans; rotate_left; with_reducible assumption) | exact Below.refl _ _ | assumption | (apply btrans0; rotate_left; assumption) | (apply btrans; rotate_left; assumption) | (simp; done) | omega | (simp; omega)))⟩
  subst he1
  by_cases hx : x = magicR
  case neg =>
    rw [repDS_none h0 (repBD_name h1 (.inr hx))]
    have hx' : ¬ x = [65, 82, 49] := hx
    have hxb : (x == [65, 82, 49]) = false := beq_eq_false_iff_ne.mpr hx'
    have hxc : (!x == [65, 82, 49]) = true := by rw [hxb]; rfl
    clear hx h1 h0
    go_enter Tryd.func19, Tryd.ntmps19
    go_wp2_with fail
    refine (ropen_any s t c 0 _ hs H0.out).mono ?_
    rintro e' w1 ⟨rfl, hb1⟩
    have G1 : w1.heap[w.heap.size]? = some (.cells #[.int .i64 0, .int .i64 0, .int .i64 0, .int .i64 0, .int .i64 0, .int .i64 0, .int .i64 0, .int .i64 0, .int .i64 0] 25 (0, 0)) := (hb1.block _ (by simp)).trans heap_new
    have cg := fun o => cellB G1 o
    have fg := fun o => frozenB G1 o
    go_wp2_with fail
    refine (rreadtext_any t x k 0 _ (by omega) H1.out).mono ?_
    rintro e' w2 ⟨rfl, rfl⟩
    skip
    go_wp2
    refine bodyPost_ret (v := .tuple #[.agg #[.int .i64 0, .int .i64 0, .int .i64 0, .int .i64 0, .int .i64 0, .int .i64 0, .int .i64 0, .int .i64 0, .int .i64 0], .int .i64 11]) (by simp [results, Tryd.results19, go_sem, World.cell?_setCell_same', cg]) rfl ?_
    exact ⟨rfl, (by repeat' (first | (with_reducible refine bset ?_ ?_) | (with_reducible exact Below.refl _ _) | (with_reducible assumption) | (with_reducible refine bdrewN ?_ _) | (with_reducible refine bdrew ?_) | (with_reducible refine balloc0 ?_) | (with_reducible refine balloc ?_ ?_) | (with_reducible apply btrans0; rotate_left; with_reducible assumption) | (with_reducible apply btrans; rotate_left; with_reducible assumption) | exact Below.refl _ _ | assumption | (apply btrans0; rotate_left; assumption) | (apply btrans; rotate_left; assumption) | (simp; done) | omega | (simp; omega)))⟩
  subst hx
  have H1 : Hid (textS t = ([65, 82, 49], k, 0)) := H1
  have hkk := (textS_ok h1).1 rfl
  obtain ⟨k0, rfl⟩ : ∃ q : Nat, k = q := ⟨k.toNat, by omega⟩
  have hbd := repBD_rest h1
  rw [Int.toNat_natCast] at hbd
  obtain ⟨⟨D, ED⟩, hD⟩ : ∃ q, repDS s = q := ⟨_, rfl⟩
  have HD := Lib.hid hD
  rw [hD]
  have hkt : k0 ≤ t.length := by omega
  have HBD := Lib.hid hbd
  obtain ⟨i0, hin, hz0, hz1, hz2⟩ := info_parts infoInt
  obtain ⟨R, hR⟩ : ∃ r, rdNs 9 (t.drop k0) = r := ⟨_, rfl⟩
  have HR0 := Lib.hid hR
  have HRM : Hid (moreN [] 0 (rdNs 9 (t.drop k0)) = R) := Lib.hid (by rw [← hR]; cases rdNs 9 (t.drop k0) with | none => rfl | some r => simp [moreN])
  have Hnone : Hid (R = none → D = zRep ∧ ED = 11) := Lib.hid (fun h => by
    have e := repDS_none h0 (hbd.trans (by rw [hR, h]))
    rw [hD] at e
    injection e with e1 e2
    exact ⟨e1, e2⟩)
  clear hbd h0 h1 hD hR
  go_enter Tryd.func19, Tryd.ntmps19
  go_wp2_with fail
  refine (ropen_any s t c 0 _ hs H0.out).mono ?_
  rintro e' w1 ⟨rfl, hb1⟩
  have hB1 : Below w.heap.size w w1 := (by repeat' (first | (with_reducible refine bset ?_ ?_) | (with_reducible exact Below.refl _ _) | (with_reducible assumption) | (with_reducible refine bdrewN ?_ _) | (with_reducible refine bdrew ?_) | (with_reducible refine balloc0 ?_) | (with_reducible refine balloc ?_ ?_) | (with_reducible apply btrans0; rotate_left; with_reducible assumption) | (with_reducible apply btrans; rotate_left; with_reducible assumption) | exact Below.refl _ _ | assumption | (apply btrans0; rotate_left; assumption) | (apply btrans; rotate_left; assumption) | (simp; done) | omega | (simp; omega)))
  have z1 : w.heap.size < w1.heap.size := by have := hb1.size; simp at this; omega
  have G1 : w1.heap[w.heap.size]? = some (.cells #[.int .i64 0, .int .i64 0, .int .i64 0, .int .i64 0, .int .i64 0, .int .i64 0, .int .i64 0, .int .i64 0, .int .i64 0] 25 (0, 0)) := (hb1.block _ (by simp)).trans heap_new
  have HG1 := Lib.hid G1
  clear hb1 G1
  go_wp2_with fail
  refine (rreadtext_any t [65, 82, 49] k0 0 _ (by omega) H1.out).mono ?_
  rintro e' w2 ⟨rfl, rfl⟩
  go_wp2
  go_loopw [10, 8, 9] (fun i a o wr => ∃ (j p : Nat) (l : List Int), i = .int .i64 j ∧ a = .int .i64 (p : Int) ∧ j ≤ 9 ∧ l.length = j ∧ k0 ≤ p ∧ p ≤ t.length ∧ wr.ownsRow w1.heap.size 3 1 o j (ints l) ∧ Hid (moreN l (p - k0) (rdNs (9 - j) (t.drop p)) = R) ∧ Below w1.heap.size w1 wr) (fun i _ _ _ => 9 - (intOf i).toNat)
  case atStart => exact ⟨0, k0, [], rfl, rfl, by omega, rfl, Nat.le_refl _, hkt, World.ownsRow_made w1 #[] 0 (Nat.le_refl _) (by simp) rfl, Lib.hid (by simpa using HRM.out), balloc0 (Below.refl _ _)⟩
  case round =>
    obtain ⟨j, p, l, rfl, rfl, hj, hl, hp0, hp, hown, HM, hB⟩ := hrel
    have HLN := Lib.hid hl
    have zr : w1.heap.size ≤ wr.heap.size := hB.size
    have hBw : Below w.heap.size w wr := hB1.trans (hB.mono (by omega))
    have GR := (hB.block _ z1).trans HG1.out
    have i0' : (0 : Int) ≤ (p : Int) := by omega
    have i1 : (p : Int) ≤ (t.length : Int) := by omega
    have i3 : (t.drop p).take (t.length - p) = t.drop p := List.take_of_length_le (by rw [List.length_drop]; exact Nat.le_refl _)
    have hld : (t.drop p).length ≤ 1000000000 := by rw [List.length_drop]; omega
    have k0' : (0 : Int) ≤ (j : Int) := by omega
    clear hl
    by_cases hlt : j < 9
    · obtain ⟨⟨n, kk, e⟩, hr⟩ : ∃ r, readS (t.drop p) = r := ⟨_, rfl⟩
      have hm := HM.out
      rw [show 9 - j = 9 - (j + 1) + 1 by omega] at hm
      have hok2 := readS_ok hr
      rw [List.length_drop] at hok2
      have k1 : (j : Int) < 9 := by omega
      by_cases he : e = 0
      case neg =>
        rw [moreN_bad hr he] at hm
        obtain ⟨rfl, rfl⟩ := Hnone.out hm.symm
        have he1 : (e == 0) = false := beq_eq_false_iff_ne.2 he
        have he2 : (e != 0) = true := by rw [bne_iff_ne]; exact he
        have HR := Lib.hid hr
        clear he hm hr hok2
        have cg := fun o => cellB GR o
        have fg := fun o => frozenB GR o
        go_wp2_with fail
        refine (rreadint_any (t.drop p) n kk e _ (by omega) HR.out).mono ?_
        rintro e' w5 ⟨rfl, rfl⟩
        go_wp2
        refine bodyPost_ret (v := .tuple #[.agg #[.int .i64 0, .int .i64 0, .int .i64 0, .int .i64 0, .int .i64 0, .int .i64 0, .int .i64 0, .int .i64 0, .int .i64 0], .int .i64 11]) (by simp [results, Tryd.results19, go_sem, World.cell?_setCell_same', cg]) rfl ?_
        exact ⟨rfl, (by repeat' (first | (with_reducible refine bset ?_ ?_) | (with_reducible exact Below.refl _ _) | (with_reducible assumption) | (with_reducible refine bdrewN ?_ _) | (with_reducible refine bdrew ?_) | (with_reducible refine balloc0 ?_) | (with_reducible refine balloc ?_ ?_) | (with_reducible apply btrans0; rotate_left; with_reducible assumption) | (with_reducible apply btrans; rotate_left; with_reducible assumption) | exact Below.refl _ _ | assumption | (apply btrans0; rotate_left; assumption) | (apply btrans; rotate_left; assumption) | (simp; done) | omega | (simp; omega)))⟩
      subst he
      rw [moreN_step hr] at hm
      obtain ⟨q1, q2, q3, _, _⟩ := hok2.1 rfl
      obtain ⟨m, rfl⟩ : ∃ m : Nat, kk = m := ⟨kk.toNat, by omega⟩
      rw [Int.toNat_natCast, List.drop_drop] at hm
      have HR := Lib.hid hr
      have HMM := Lib.hid hm
      have hw : IntKind.i64.wrap ((p : Int) + (m : Int)) = ((p + m : Nat) : Int) := by rw [IntKind.wrap_i64]; omega
      clear hm hr hok2
      go_wp2_with fail
      refine (rreadint_any (t.drop p) n m 0 _ (by omega) HR.out).mono ?_
      rintro e' w5 ⟨rfl, rfl⟩
      go_wp2_with (at_builtin; refine wpList_append_own _ rfl _ _ _ rfl w1.heap.size 3 i0 _ 1 8 Tryd.underlying63 hin hz0 hz1 hz2 rfl (by omega) _ _ _ rfl (hown.alloc _) ⟨wr.heap.size, 0, none⟩ 1 1 [.int .i64 n] rfl rfl (news_one heap_new) (by simp [Value.oneCell']) (by simp only [maxLen]; omega) (by omega) (by simp; omega) ?_; intro v' w6 hO6 hg6 _)
      have hB6 : Below w1.heap.size w1 w6 := (balloc hB (by omega)).grown hg6 (by simp; omega) (fun q hq => (hown.lt q hq).1)
      go_roundw
      case rel =>
        refine ⟨j + 1, p + m, l ++ [n], by go_num, by go_num, by omega, by rw [List.length_append, HLN.out]; rfl, by omega, by omega, ?_, Lib.hid ?_, hB6⟩
        · have : ints (l ++ [n]) = ints l ++ [.int .i64 n] := by simp [ints]
          rw [this]; exact hO6
        · rw [show p + m - k0 = p - k0 + m by omega]; exact HMM.out
      case measure => simp [intOf]; omega
    · obtain rfl : j = 9 := by omega
      have hm := HM.out
      rw [show 9 - 9 = 0 from rfl, rdNs] at hm
      simp only [moreN, List.append_nil, Nat.add_zero] at hm
      subst hm
      have hres := HBD.out
      rw [HR0.out] at hres
      simp only at hres
      rw [show k0 + (p - k0) = p by omega] at hres
      rcases hown.2 with ⟨_, hz⟩ | ⟨g, cap, cur, rfl, hbg, hgg, hn1, hcm, hcs, htk⟩
      · simp at hz
      obtain ⟨n0, n1, n2, n3, n4, n5, n6, n7, n8, rfl⟩ := list9 HLN.out
      have hgl : g < wr.heap.size := (Array.getElem?_eq_some_iff.1 hgg).1
      have hcell : ∀ q u, (ints [n0, n1, n2, n3, n4, n5, n6, n7, n8])[q]? = some u → wr.cell? ⟨g, q, none⟩ = some u := fun q u hq => by
        have := hown.cells (g := g) rfl q u hq
        rwa [addN, Nat.zero_add] at this
      have d0 := hcell 0 _ rfl
      have d1 := hcell 1 _ rfl
      have d2 := hcell 2 _ rfl
      have d3 := hcell 3 _ rfl
      have d4 := hcell 4 _ rfl
      have d5 := hcell 5 _ rfl
      have d6 := hcell 6 _ rfl
      have d7 := hcell 7 _ rfl
      have d8 := hcell 8 _ rfl
      have HGR := Lib.hid GR
      clear hgg htk hcell
      rw [show mkRep [n0, n1, n2, n3, n4, n5, n6, n7, n8] = ⟨n0, n1, n2, n3, n4, n5, n6, n7, n8⟩ from rfl] at hres
      go_wp2
      refine wp_region_plan (fun V => V.cell? ⟨g, 0, none⟩ = some (.int .i64 n0) ∧ V.cell? ⟨g, 1, none⟩ = some (.int .i64 n1) ∧ V.cell? ⟨g, 2, none⟩ = some (.int .i64 n2) ∧ V.cell? ⟨g, 3, none⟩ = some (.int .i64 n3) ∧ V.cell? ⟨g, 4, none⟩ = some (.int .i64 n4) ∧ V.cell? ⟨g, 5, none⟩ = some (.int .i64 n5) ∧ V.cell? ⟨g, 6, none⟩ = some (.int .i64 n6) ∧ V.cell? ⟨g, 7, none⟩ = some (.int .i64 n7) ∧ V.cell? ⟨g, 8, none⟩ = some (.int .i64 n8)) [0, 0, 1, 0, 0, 1, 0, 0, 1, 0, 0, 1, 0, 0, 1, 0, 0, 1, 0, 0, 0, 1, 0, 0, 1, 0, 0, 1, 0, 2, 3] [0, 1, 2, 3, 4, 5, 6, 7, 8, 9, 10, 11, 12, 13, 14, 15, 16, 17, 18, 19, 20, 21, 22, 23, 24, 25, 26, 27, 28, 29, 30] (by kernel_rfl) (by kernel_rfl) ?_ ?_
      case refine_1 => exact ⟨d0, d1, d2, d3, d4, d5, d6, d7, d8⟩
      (iterate 29 (refine plan_held rfl (by decide) (by rfl) (fun w1 hS => by (try (have hS := hS rfl; obtain hS := hS; repeat (obtain ⟨_, hS⟩ := hS))); go_simp; rfl) ?_; simp only [Act.put, List.setIfInBounds_toArray, List.set_cons_zero, List.set_cons_succ]))
      (refine plan_keep rfl rfl (by rfl) (fun K hK => ?_); go_simp)
      (refine hK _ _ (by go_simp) ?_; clear hK K; (try simp only [Act.put, List.setIfInBounds_toArray, List.set_cons_zero, List.set_cons_succ]))
      (refine plan_late rfl rfl (by rfl) (fun K hK => ?_); go_simp)
      (refine hK _ _ ?_; clear hK K; (try simp only [Act.put, List.setIfInBounds_toArray, List.set_cons_zero, List.set_cons_succ]))
      refine plan_done ?_
      have hB6 : Below w.heap.size w (wr.alloc (.cells #[.int .i64 n0, .int .i64 n1, .int .i64 n2, .int .i64 n3, .int .i64 n4, .int .i64 n5, .int .i64 n6, .int .i64 n7, .int .i64 n8] 25)).drew := bdrew (balloc hBw (by omega))
      by_cases hal : p = t.length
      case neg =>
        rw [if_pos hal] at hres
        have e := repDS_none H0.out hres
        rw [HD.out] at e
        injection e with e1 e2
        subst e1 e2
        have ha1 : ((p : Int) != (t.length : Int)) = true := by rw [bne_iff_ne]; omega
        have ha2 : ((p : Int) == (t.length : Int)) = false := beq_eq_false_iff_ne.2 (by omega)
        clear hal hres
        have cg := fun o => cellB HGR.out o
        have fg := fun o => frozenB HGR.out o
        have zw : w.heap.size < wr.heap.size := by omega
        go_wp2
        refine bodyPost_ret (v := .tuple #[.agg #[.int .i64 0, .int .i64 0, .int .i64 0, .int .i64 0, .int .i64 0, .int .i64 0, .int .i64 0, .int .i64 0, .int .i64 0], .int .i64 11]) (by simp [results, Tryd.results19, go_sem, World.cell?_setCell_same', zw, cg]) rfl ?_
        exact ⟨rfl, (by repeat' (first | (with_reducible refine bset ?_ ?_) | (with_reducible exact Below.refl _ _) | (with_reducible assumption) | (with_reducible refine bdrewN ?_ _) | (with_reducible refine bdrew ?_) | (with_reducible refine balloc0 ?_) | (with_reducible refine balloc ?_ ?_) | (with_reducible apply btrans0; rotate_left; with_reducible assumption) | (with_reducible apply btrans; rotate_left; with_reducible assumption) | exact Below.refl _ _ | assumption | (apply btrans0; rotate_left; assumption) | (apply btrans; rotate_left; assumption) | (simp; done) | omega | (simp; omega)))⟩
      rw [if_neg (by simp [hal])] at hres
      have ha1 : ((p : Int) != (t.length : Int)) = false := by rw [hal]; simp
      have ha2 : ((p : Int) == (t.length : Int)) = true := by rw [hal]; simp
      clear hal
      obtain ⟨CE, hCE⟩ : ∃ q, repE ⟨n0, n1, n2, n3, n4, n5, n6, n7, n8⟩ = q := ⟨_, rfl⟩
      rw [hCE] at hres
      have HCE := Lib.hid hCE
      by_cases hz : CE = 0
      case neg =>
        rw [if_pos hz] at hres
        have e := repDS_none H0.out hres
        rw [HD.out] at e
        injection e with e1 e2
        subst e1 e2
        have hz1 : (CE != 0) = true := by rw [bne_iff_ne]; exact hz
        clear hres hz hCE
        go_wp2_with fail
        refine (rrepCheck_any ⟨n0, n1, n2, n3, n4, n5, n6, n7, n8⟩ _).mono ?_
        rw [HCE.out]
        rintro e' w8 ⟨rfl, hb8⟩
        have G8 := (hb8.block _ (by simp; omega)).trans ((Below.heap_alloc _ _ _ (by omega : w.heap.size < wr.heap.size)).trans HGR.out)
        have cg := fun o => cellB G8 o
        have fg := fun o => frozenB G8 o
        go_wp2
        refine bodyPost_ret (v := .tuple #[.agg #[.int .i64 0, .int .i64 0, .int .i64 0, .int .i64 0, .int .i64 0, .int .i64 0, .int .i64 0, .int .i64 0, .int .i64 0], .int .i64 11]) (by simp [results, Tryd.results19, go_sem, World.cell?_setCell_same', cg]) rfl ?_
        exact ⟨rfl, (by repeat' (first | (with_reducible refine bset ?_ ?_) | (with_reducible exact Below.refl _ _) | (with_reducible assumption) | (with_reducible refine bdrewN ?_ _) | (with_reducible refine bdrew ?_) | (with_reducible refine balloc0 ?_) | (with_reducible refine balloc ?_ ?_) | (with_reducible apply btrans0; rotate_left; with_reducible assumption) | (with_reducible apply btrans; rotate_left; with_reducible assumption) | exact Below.refl _ _ | assumption | (apply btrans0; rotate_left; assumption) | (apply btrans; rotate_left; assumption) | (simp; done) | omega | (simp; omega)))⟩
      subst hz
      rw [if_neg (by simp)] at hres
      have e := repDS_some H0.out HC.out hres
      rw [HD.out] at e
      injection e with e1 e2
      subst e1 e2
      clear hres hCE
      go_wp2_with fail
      refine (rrepCheck_any ⟨n0, n1, n2, n3, n4, n5, n6, n7, n8⟩ _).mono ?_
      rw [HCE.out]
      rintro e' w8 ⟨rfl, hb8⟩
      have G8 := (hb8.block _ (by simp; omega)).trans ((Below.heap_alloc _ _ _ (by omega : w.heap.size < wr.heap.size)).trans HGR.out)
      have X8 : w8.heap[wr.heap.size]? = some (.cells #[.int .i64 n0, .int .i64 n1, .int .i64 n2, .int .i64 n3, .int .i64 n4, .int .i64 n5, .int .i64 n6, .int .i64 n7, .int .i64 n8] 25 (0, 0)) := (hb8.block _ (by simp)).trans heap_new
      have cx := fun o => cellB X8 o
      have cg := fun o => cellB G8 o
      have fg := fun o => frozenB G8 o
      go_wp2
      refine bodyPost_ret (v := .tuple #[.agg #[.int .i64 n0, .int .i64 n1, .int .i64 n2, .int .i64 n3, .int .i64 n4, .int .i64 n5, .int .i64 n6, .int .i64 n7, .int .i64 n8], .int .i64 0]) (by simp [results, Tryd.results19, go_sem, World.cell?_setCell_same', cg]) rfl ?_
      exact ⟨rfl, (by repeat' (first | (with_reducible refine bset ?_ ?_) | (with_reducible exact Below.refl _ _) | (with_reducible assumption) | (with_reducible refine bdrewN ?_ _) | (with_reducible refine bdrew ?_) | (with_reducible refine balloc0 ?_) | (with_reducible refine balloc ?_ ?_) | (with_reducible apply btrans0; rotate_left; with_reducible assumption) | (with_reducible apply btrans; rotate_left; with_reducible assumption) | exact Below.refl _ _ | assumption | (apply btrans0; rotate_left; assumption) | (apply btrans; rotate_left; assumption) | (simp; done) | omega | (simp; omega)))⟩
end Go.Proofs.YtcmkpnjbnjbegaaDoor
