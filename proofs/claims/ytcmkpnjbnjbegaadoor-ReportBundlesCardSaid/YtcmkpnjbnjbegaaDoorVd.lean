/- Layer 20 (report), the program: the reader's numbers; Decode. -/
import Derived.Test.YtcmkpnjbnjbegaaDoorVc
set_option linter.unusedVariables false
set_option linter.unusedSimpArgs false
namespace Go.Proofs.YtcmkpnjbnjbegaaDoor
open Go Go.RowKit
attribute [local go_sem] B_getElem B_size B_app B_extract B_get B_toList

def RdxC (u : List UInt8) (q : Bool) : Array Value := #[.string (B u), .bool q]
/-- a reader in box rb -/
def Rdx (w : World) (rb : Nat) (u : List UInt8) (q : Bool) : Prop := w.heap[rb]? = some (.cells (RdxC u q) 68 (0, 0))
def nmS (u : List UInt8) (q : Bool) (n k e : Int) : Int × List UInt8 × Bool := if q = true ∨ e ≠ 0 then (0, u, true) else (n, u.drop k.toNat, false)
theorem nmS_bad {u : List UInt8} {q : Bool} {n k e : Int} (h : q = true ∨ e ≠ 0) : nmS u q n k e = (0, u, true) := if_pos h
theorem nmS_ok (u : List UInt8) (n k : Int) : nmS u false n k 0 = (n, u.drop k.toNat, false) := if_neg (by simp)
def NumPost (r : Int × List UInt8 × Bool) (rb : Nat) (w : World) (e : Ending) (w' : World) : Prop := e = .returned (.int .i64 r.1) ∧ Rdx w' rb r.2.1 r.2.2 ∧ KpX w.heap.size rb w w' ∧ Below rb w w'
set_option maxHeartbeats 1000000 in
theorem pnumber_any (u : List UInt8) (q : Bool) (n k e : Int) (rb : Nat) (w : World) (h : Rdx w rb u q) (hu : u.length ≤ 1000000000) (hr : readS u = (n, k, e)) :
    Calls Tryd.prog 50 #[.pointer (some ⟨rb, 0, none⟩)] w (NumPost (nmS u q n k e) rb w) := by
  have hrb : rb < w.heap.size := by
    rcases Nat.lt_or_ge rb w.heap.size with z | z
    · exact z
    · unfold Rdx at h; rw [Array.getElem?_eq_none z] at h; cases h
  have H := Lib.hid h
  unfold Rdx at h
  have ca := fun o => cellB h o
  simp only [RdxC] at ca
  have hok := readS_ok hr
  have HR := Lib.hid hr
  clear h hr
  by_cases hq : q = true ∨ e ≠ 0
  · rw [nmS_bad hq]
    cases q with
    | true =>
      clear hq hok
      go_enter Tryd.func50, Tryd.ntmps50
      go_wp2_with fail
      refine (readint_any u n k e _ hu HR.out).mono ?_
      rintro e' w2 ⟨rfl, hb2⟩
      have hB2 : Below w.heap.size w w2 := (by repeat' (first | (with_reducible refine bset ?_ ?_) | (with_reducible exact Below.refl _ _) | (with_reducible assumption) | (with_reducible refine bdrewN ?_ _) | (with_reducible refine bdrew ?_) | (with_reducible refine balloc0 ?_) | (with_reducible refine balloc ?_ ?_) | (with_reducible apply btrans0; rotate_left; with_reducible assumption) | (with_reducible apply btrans; rotate_left; with_reducible assumption) | exact Below.refl _ _ | assumption | (apply btrans0; rotate_left; assumption) | (apply btrans; rotate_left; assumption) | (simp; done) | omega | (simp; omega)))
      have G2 := (hb2.block rb hrb).trans H.out
      have ca := fun o => cellB G2 o
      have fa := fun o => frozenB G2 o
      simp only [RdxC] at ca
      have HG := Lib.hid G2
      clear G2 hb2
      go_wp2
      go_ret
      exact ⟨rfl, by simpa [RdxC, Rdx] using setB HG.out 1 (.bool true), fld_set hB2 hrb⟩
    | false =>
      have he : e ≠ 0 := hq.resolve_left (by simp)
      have he1 : (e == 0) = false := beq_eq_false_iff_ne.2 he
      have he2 : (e != 0) = true := by rw [bne_iff_ne]; exact he
      clear hq hok he
      go_enter Tryd.func50, Tryd.ntmps50
      go_wp2_with fail
      refine (readint_any u n k e _ hu HR.out).mono ?_
      rintro e' w2 ⟨rfl, hb2⟩
      have hB2 : Below w.heap.size w w2 := (by repeat' (first | (with_reducible refine bset ?_ ?_) | (with_reducible exact Below.refl _ _) | (with_reducible assumption) | (with_reducible refine bdrewN ?_ _) | (with_reducible refine bdrew ?_) | (with_reducible refine balloc0 ?_) | (with_reducible refine balloc ?_ ?_) | (with_reducible apply btrans0; rotate_left; with_reducible assumption) | (with_reducible apply btrans; rotate_left; with_reducible assumption) | exact Below.refl _ _ | assumption | (apply btrans0; rotate_left; assumption) | (apply btrans; rotate_left; assumption) | (simp; done) | omega | (simp; omega)))
      have G2 := (hb2.block rb hrb).trans H.out
      have ca := fun o => cellB G2 o
      have fa := fun o => frozenB G2 o
      simp only [RdxC] at ca
      have HG := Lib.hid G2
      clear G2 hb2
      go_wp2
      go_ret
      exact ⟨rfl, by simpa [RdxC, Rdx] using setB HG.out 1 (.bool true), fld_set hB2 hrb⟩
  · rw [not_or] at hq
    obtain rfl : q = false := by simpa using hq.1
    obtain rfl : e = 0 := Decidable.not_not.1 hq.2
    rw [nmS_ok]
    obtain ⟨h1, h2, h3, _, _⟩ := hok.1 rfl
    obtain ⟨m, rfl⟩ : ∃ m : Nat, k = m := ⟨k.toNat, by omega⟩
    rw [Int.toNat_natCast]
    have i3 : (u.drop m).take (u.length - m) = u.drop m := List.take_of_length_le (by rw [List.length_drop]; exact Nat.le_refl _)
    have i0 : (0 : Int) ≤ (m : Int) := by omega
    clear hq hok
    go_enter Tryd.func50, Tryd.ntmps50
    go_wp2_with fail
    refine (readint_any u n m 0 _ hu HR.out).mono ?_
    rintro e' w2 ⟨rfl, hb2⟩
    have hB2 : Below w.heap.size w w2 := (by repeat' (first | (with_reducible refine bset ?_ ?_) | (with_reducible exact Below.refl _ _) | (with_reducible assumption) | (with_reducible refine bdrewN ?_ _) | (with_reducible refine bdrew ?_) | (with_reducible refine balloc0 ?_) | (with_reducible refine balloc ?_ ?_) | (with_reducible apply btrans0; rotate_left; with_reducible assumption) | (with_reducible apply btrans; rotate_left; with_reducible assumption) | exact Below.refl _ _ | assumption | (apply btrans0; rotate_left; assumption) | (apply btrans; rotate_left; assumption) | (simp; done) | omega | (simp; omega)))
    have G2 := (hb2.block rb hrb).trans H.out
    have ca := fun o => cellB G2 o
    have fa := fun o => frozenB G2 o
    simp only [RdxC] at ca
    have HG := Lib.hid G2
    clear G2 hb2
    go_wp2
    go_ret
    exact ⟨rfl, by simpa [RdxC, Rdx] using setB HG.out 0 (.string (B (u.drop m))), fld_set hB2 hrb⟩

def rdW : Nat → List UInt8 → Bool → List Int × List UInt8 × Bool
  | 0, u, q => ([], u, q)
  | f + 1, u, q => ((nmS u q (readS u).1 (readS u).2.1 (readS u).2.2).1 :: (rdW f (nmS u q (readS u).1 (readS u).2.1 (readS u).2.2).2.1 (nmS u q (readS u).1 (readS u).2.1 (readS u).2.2).2.2).1, (rdW f (nmS u q (readS u).1 (readS u).2.1 (readS u).2.2).2.1 (nmS u q (readS u).1 (readS u).2.1 (readS u).2.2).2.2).2)
theorem rdW_step {f : Nat} {u U : List UInt8} {q Q : Bool} {n k e N : Int} (h : readS u = (n, k, e)) (h2 : nmS u q n k e = (N, U, Q)) : rdW (f + 1) u q = (N :: (rdW f U Q).1, (rdW f U Q).2) := by rw [rdW, h]; simp only; rw [h2]
theorem rdW_spec : ∀ (f : Nat) (u : List UInt8) (q : Bool) (L : List Int) (U : List UInt8) (Q : Bool), rdW f u q = (L, U, Q) →
    L.length = f ∧ U.length ≤ u.length ∧ (Q = false → q = false ∧ ∃ m, rdNs f u = some (L, m) ∧ m + U.length = u.length) ∧ (Q = true → q = true ∨ rdNs f u = none)
  | 0, u, q, L, U, Q, h => by
    rw [rdW] at h
    obtain ⟨rfl, rfl, rfl⟩ := trip h
    exact ⟨rfl, Nat.le_refl _, fun hq => ⟨hq, 0, rfl, by omega⟩, fun hq => .inl hq⟩
  | f + 1, u, q, L, U, Q, h => by
    obtain ⟨⟨n, k, e⟩, hr⟩ : ∃ r, readS u = r := ⟨_, rfl⟩
    obtain ⟨⟨N, U2, Q2⟩, h2⟩ : ∃ r, nmS u q n k e = r := ⟨_, rfl⟩
    rw [rdW_step hr h2] at h
    obtain ⟨⟨L3, U3, Q3⟩, h3⟩ : ∃ r, rdW f U2 Q2 = r := ⟨_, rfl⟩
    rw [h3] at h
    obtain ⟨rfl, rfl, rfl⟩ := trip h
    obtain ⟨g1, g2, g3, g4⟩ := rdW_spec f U2 Q2 L3 _ _ h3
    by_cases hq : q = true ∨ e ≠ 0
    · rw [nmS_bad hq] at h2
      obtain ⟨rfl, rfl, rfl⟩ := trip h2
      refine ⟨by simp [g1], g2, fun h => absurd (g3 h).1 (by simp), fun _ => ?_⟩
      rcases hq with hq | he
      · exact .inl hq
      · right; rw [rdNs, hr]; simp only; rw [if_pos he]
    · rw [not_or] at hq
      obtain rfl : q = false := by simpa using hq.1
      obtain rfl : e = 0 := Decidable.not_not.1 hq.2
      rw [nmS_ok] at h2
      obtain ⟨rfl, rfl, rfl⟩ := trip h2
      have hk := (readS_ok hr).1 rfl
      rw [List.length_drop] at g2
      refine ⟨by simp [g1], by omega, fun h => ?_, fun h => ?_⟩
      · obtain ⟨_, m, p1, p2⟩ := g3 h
        rw [List.length_drop] at p2
        refine ⟨rfl, k.toNat + m, ?_, by omega⟩
        rw [rdNs, hr]; simp only; rw [if_neg (by simp), p1]
      · right
        rcases g4 h with h | h
        · cases h
        · rw [rdNs, hr]; simp only; rw [if_neg (by simp), h]
theorem repBD_W {t : List UInt8} {k0 : Nat} {L : List Int} {U : List UInt8} {Q : Bool} (h : textS t = (magicR, (k0 : Int), 0)) (hk : k0 ≤ t.length) (hw : rdW 9 (t.drop k0) false = (L, U, Q)) :
    repBD t = if Q = true then none else if U ≠ [] then none else if repE (mkRep L) ≠ 0 then none else some (mkRep L) := by
  obtain ⟨g1, g2, g3, g4⟩ := rdW_spec 9 _ _ _ _ _ hw
  rw [repBD_rest h, Int.toNat_natCast]
  cases Q with
  | true => rw [(g4 rfl).resolve_left (by simp)]; rw [if_pos rfl]
  | false =>
    obtain ⟨_, m, p1, p2⟩ := g3 rfl
    rw [p1]
    simp only
    rw [List.length_drop] at p2
    rw [if_neg (by simp : ¬ false = true)]
    by_cases hu : U = []
    · subst hu
      rw [List.length_nil] at p2
      rw [if_neg (by omega : ¬ k0 + m ≠ t.length), if_neg (by simp : ¬ ([] : List UInt8) ≠ [])]
    · have : U.length ≠ 0 := fun h => hu (List.length_eq_zero_iff.1 h)
      rw [if_pos (by omega), if_pos hu]
def arC (l : List Int) : Array Value := (ints (l ++ List.replicate (9 - l.length) 0)).toArray
theorem arC_set {l : List Int} {k : Nat} (hl : l.length = k) (hk : k < 9) (n : Int) : (arC l).setIfInBounds k (.int .i64 n) = arC (l ++ [n]) := by
  unfold arC ints
  obtain ⟨m, hm⟩ : ∃ m, 9 - l.length = m + 1 := ⟨9 - l.length - 1, by omega⟩
  have hm2 : 9 - (l ++ [n]).length = m := by simp; omega
  rw [hm, hm2, List.replicate_succ]
  subst hl
  simp [List.set_append]
theorem arC_get {l : List Int} {k : Nat} (hl : l.length = k) (hk : k < 9) : (arC l)[k]? = some (.int .i64 0) := by
  unfold arC ints
  obtain ⟨m, hm⟩ : ∃ m, 9 - l.length = m + 1 := ⟨9 - l.length - 1, by omega⟩
  rw [hm, List.replicate_succ]
  subst hl
  simp

set_option maxRecDepth 100000 in
set_option maxHeartbeats 6000000 in
theorem repDecode_any (s : List UInt8) (w : World) (hs : s.length ≤ 1000000000) :
    Calls Tryd.prog 18 #[.string (B s)] w (RepPost (repDS s).1 (repDS s).2 w) := by
  obtain ⟨⟨t, c, e0⟩, h0⟩ : ∃ q, openS tailB s = q := ⟨_, rfl⟩
  have hok := openS_len h0
  have ht : t.length ≤ 1000000000 := by omega
  have H0 := Lib.hid h0
  by_cases he : e0 = 0
  case neg =>
    rw [repDS_open h0 (.inl he)]
    have he1 : (e0 == 0) = false := beq_eq_false_iff_ne.2 he
    have he2 : (e0 != 0) = true := by rw [bne_iff_ne]; exact he
    clear he h0
    go_enter Tryd.func18, Tryd.ntmps18
    go_wp2_with fail
    refine (open_any s t c e0 _ hs H0.out).mono ?_
    rintro e' w1 ⟨rfl, hb1⟩
    have G1 : w1.heap[w.heap.size]? = some (.cells #[.int .i64 0, .int .i64 0, .int .i64 0, .int .i64 0, .int .i64 0, .int .i64 0, .int .i64 0, .int .i64 0, .int .i64 0] 25 (0, 0)) := (hb1.block _ (by simp)).trans heap_new
    have cg := fun o => cellB G1 o
    have fg := fun o => frozenB G1 o
    go_wp2
    refine bodyPost_ret (v := .tuple #[.agg #[.int .i64 0, .int .i64 0, .int .i64 0, .int .i64 0, .int .i64 0, .int .i64 0, .int .i64 0, .int .i64 0, .int .i64 0], .int .i64 11]) (by simp [results, Tryd.results18, go_sem, World.cell?_setCell_same', cg]) rfl ?_
    exact ⟨rfl, (by repeat' (first | (with_reducible refine bset ?_ ?_) | (with_reducible exact Below.refl _ _) | (with_reducible assumption) | (with_reducible refine bdrewN ?_ _) | (with_reducible refine bdrew ?_) | (with_reducible refine balloc0 ?_) | (with_reducible refine balloc ?_ ?_) | (with_reducible apply btrans0; rotate_left; with_reducible assumption) | (with_reducible apply btrans; rotate_left; with_reducible assumption) | exact Below.refl _ _ | assumption | (apply btrans0; rotate_left; assumption) | (apply btrans; rotate_left; assumption) | (simp; done) | omega | (simp; omega)))⟩
  subst he
  by_cases hc : c = s.length
  case neg =>
    rw [repDS_open h0 (.inr hc)]
    have hc1 : (c != (s.length : Int)) = true := by rw [bne_iff_ne]; exact hc
    have hc2 : (c == (s.length : Int)) = false := beq_eq_false_iff_ne.2 hc
    clear hc h0
    go_enter Tryd.func18, Tryd.ntmps18
    go_wp2_with fail
    refine (open_any s t c 0 _ hs H0.out).mono ?_
    rintro e' w1 ⟨rfl, hb1⟩
    have G1 : w1.heap[w.heap.size]? = some (.cells #[.int .i64 0, .int .i64 0, .int .i64 0, .int .i64 0, .int .i64 0, .int .i64 0, .int .i64 0, .int .i64 0, .int .i64 0] 25 (0, 0)) := (hb1.block _ (by simp)).trans heap_new
    have cg := fun o => cellB G1 o
    have fg := fun o => frozenB G1 o
    go_wp2
    refine bodyPost_ret (v := .tuple #[.agg #[.int .i64 0, .int .i64 0, .int .i64 0, .int .i64 0, .int .i64 0, .int .i64 0, .int .i64 0, .int .i64 0, .int .i64 0], .int .i64 11]) (by simp [results, Tryd.results18, go_sem, World.cell?_setCell_same', cg]) rfl ?_
    exact ⟨rfl, (by repeat' (first | (with_reducible refine bset ?_ ?_) | (with_reducible exact Below.refl _ _) | (with_reducible assumption) | (with_reducible refine bdrewN ?_ _) | (with_reducible refine bdrew ?_) | (with_reducible refine balloc0 ?_) | (with_reducible refine balloc ?_ ?_) | (with_reducible apply btrans0; rotate_left; with_reducible assumption) | (with_reducible apply btrans; rotate_left; with_reducible assumption) | exact Below.refl _ _ | assumption | (apply btrans0; rotate_left; assumption) | (apply btrans; rotate_left; assumption) | (simp; done) | omega | (simp; omega)))⟩
  have hc1 : (c != (s.length : Int)) = false := by rw [hc]; simp
  have hc2 : (c == (s.length : Int)) = true := by rw [hc]; simp
  have HC := Lib.hid hc
  clear hc
  obtain ⟨⟨x, k, e1⟩, h1⟩ : ∃ q, textS t = q := ⟨_, rfl⟩
  have H1 := Lib.hid h1
  by_cases he1 : e1 = 0
  case neg =>
    rw [repDS_none h0 (repBD_name h1 (.inl he1))]
    have he2 : (e1 == 0) = false := beq_eq_false_iff_ne.2 he1
    have he3 : (e1 != 0) = true := by rw [bne_iff_ne]; exact he1
    clear he1 h1 h0
    go_enter Tryd.func18, Tryd.ntmps18
    go_wp2_with fail
    refine (open_any s t c 0 _ hs H0.out).mono ?_
    rintro e' w1 ⟨rfl, hb1⟩
    have G1 : w1.heap[w.heap.size]? = some (.cells #[.int .i64 0, .int .i64 0, .int .i64 0, .int .i64 0, .int .i64 0, .int .i64 0, .int .i64 0, .int .i64 0, .int .i64 0] 25 (0, 0)) := (hb1.block _ (by simp)).trans heap_new
    have cg := fun o => cellB G1 o
    have fg := fun o => frozenB G1 o
    go_wp2_with fail
    refine (readtext_any t x k e1 _ (by omega) H1.out).mono ?_
    rintro e' w2 ⟨rfl, hb2⟩
    have G2 := (hb2.block _ (by have := hb1.size; simp at this; omega)).trans G1
    have cg := fun o => cellB G2 o
    have fg := fun o => frozenB G2 o
    go_wp2
    refine bodyPost_ret (v := .tuple #[.agg #[.int .i64 0, .int .i64 0, .int .i64 0, .int .i64 0, .int .i64 0, .int .i64 0, .int .i64 0, .int .i64 0, .int .i64 0], .int .i64 11]) (by simp [results, Tryd.results18, go_sem, World.cell?_setCell_same', cg]) rfl ?_
    exact ⟨rfl, (by repeat' (first | (with_reducible refine bset ?_ ?_) | (with_reducible exact Below.refl _ _) | (with_reducible assumption) | (with_reducible refine bdrewN ?_ _) | (with_reducible refine bdrew ?_) | (with_reducible refine balloc0 ?_) | (with_reducible refine balloc ?_ ?_) | (with_reducible apply btrans0; rotate_left; with_reducible assumption) | (with_reducible apply btrans; rotate_left; with_reducible assumption) | exact Below.refl _ _ | assumption | (apply btrans0; rotate_left; assumption) | (apply btrans; rotate_left; assumption) | (simp; done) | omega | (simp; omega)))⟩
  subst he1
  by_cases hx : x = magicR
  case neg =>
    rw [repDS_none h0 (repBD_name h1 (.inr hx))]
    have hx' : ¬ x = [65, 82, 49] := hx
    have hxb : (x == [65, 82, 49]) = false := beq_eq_false_iff_ne.mpr hx'
    have hxc : (!x == [65, 82, 49]) = true := by rw [hxb]; rfl
    clear hx h1 h0
    go_enter Tryd.func18, Tryd.ntmps18
    go_wp2_with fail
    refine (open_any s t c 0 _ hs H0.out).mono ?_
    rintro e' w1 ⟨rfl, hb1⟩
    have G1 : w1.heap[w.heap.size]? = some (.cells #[.int .i64 0, .int .i64 0, .int .i64 0, .int .i64 0, .int .i64 0, .int .i64 0, .int .i64 0, .int .i64 0, .int .i64 0] 25 (0, 0)) := (hb1.block _ (by simp)).trans heap_new
    have cg := fun o => cellB G1 o
    have fg := fun o => frozenB G1 o
    go_wp2_with fail
    refine (readtext_any t x k 0 _ (by omega) H1.out).mono ?_
    rintro e' w2 ⟨rfl, hb2⟩
    have G2 := (hb2.block _ (by have := hb1.size; simp at this; omega)).trans G1
    have cg := fun o => cellB G2 o
    have fg := fun o => frozenB G2 o
    go_wp2
    refine bodyPost_ret (v := .tuple #[.agg #[.int .i64 0, .int .i64 0, .int .i64 0, .int .i64 0, .int .i64 0, .int .i64 0, .int .i64 0, .int .i64 0, .int .i64 0], .int .i64 11]) (by simp [results, Tryd.results18, go_sem, World.cell?_setCell_same', cg]) rfl ?_
    exact ⟨rfl, (by repeat' (first | (with_reducible refine bset ?_ ?_) | (with_reducible exact Below.refl _ _) | (with_reducible assumption) | (with_reducible refine bdrewN ?_ _) | (with_reducible refine bdrew ?_) | (with_reducible refine balloc0 ?_) | (with_reducible refine balloc ?_ ?_) | (with_reducible apply btrans0; rotate_left; with_reducible assumption) | (with_reducible apply btrans; rotate_left; with_reducible assumption) | exact Below.refl _ _ | assumption | (apply btrans0; rotate_left; assumption) | (apply btrans; rotate_left; assumption) | (simp; done) | omega | (simp; omega)))⟩
  subst hx
  have H1 : Hid (textS t = ([65, 82, 49], k, 0)) := H1
  have hkk := (textS_ok h1).1 rfl
  obtain ⟨k0, rfl⟩ : ∃ q : Nat, k = q := ⟨k.toNat, by omega⟩
  have hbd := repBD_rest h1
  rw [Int.toNat_natCast] at hbd
  obtain ⟨⟨D, ED⟩, hD⟩ : ∃ q, repDS s = q := ⟨_, rfl⟩
  have HD := Lib.hid hD
  rw [hD]
  have hkt : k0 ≤ t.length := by omega
  have HBD := Lib.hid hbd
  obtain ⟨⟨L, U, Q⟩, hw⟩ : ∃ q, rdW 9 (t.drop k0) false = q := ⟨_, rfl⟩
  have hbw := repBD_W h1 hkt hw
  have hU := (rdW_spec 9 _ _ _ _ _ hw).2.1
  have HBW := Lib.hid hbw
  have HW := Lib.hid hw
  have hld0 : (t.drop k0).length ≤ 1000000000 := by rw [List.length_drop]; omega
  have i3 : (t.drop k0).take (t.length - k0) = t.drop k0 := List.take_of_length_le (by rw [List.length_drop]; exact Nat.le_refl _)
  have i0' : (0 : Int) ≤ (k0 : Int) := by omega
  have i1' : (k0 : Int) ≤ (t.length : Int) := by omega
  clear hbd hbw h0 h1 hD hw
  go_enter Tryd.func18, Tryd.ntmps18
  go_wp2_with fail
  refine (open_any s t c 0 _ hs H0.out).mono ?_
  rintro e' w1 ⟨rfl, hb1⟩
  have hB1 : Below w.heap.size w w1 := (by repeat' (first | (with_reducible refine bset ?_ ?_) | (with_reducible exact Below.refl _ _) | (with_reducible assumption) | (with_reducible refine bdrewN ?_ _) | (with_reducible refine bdrew ?_) | (with_reducible refine balloc0 ?_) | (with_reducible refine balloc ?_ ?_) | (with_reducible apply btrans0; rotate_left; with_reducible assumption) | (with_reducible apply btrans; rotate_left; with_reducible assumption) | exact Below.refl _ _ | assumption | (apply btrans0; rotate_left; assumption) | (apply btrans; rotate_left; assumption) | (simp; done) | omega | (simp; omega)))
  have z1 : w.heap.size < w1.heap.size := by have := hb1.size; simp at this; omega
  have G1 : w1.heap[w.heap.size]? = some (.cells #[.int .i64 0, .int .i64 0, .int .i64 0, .int .i64 0, .int .i64 0, .int .i64 0, .int .i64 0, .int .i64 0, .int .i64 0] 25 (0, 0)) := (hb1.block _ (by simp)).trans heap_new
  clear hb1
  go_wp2_with fail
  refine (readtext_any t [65, 82, 49] k0 0 _ (by omega) H1.out).mono ?_
  rintro e' w2 ⟨rfl, hb2⟩
  have hB2 : Below w.heap.size w w2 := (by repeat' (first | (with_reducible refine bset ?_ ?_) | (with_reducible exact Below.refl _ _) | (with_reducible assumption) | (with_reducible refine bdrewN ?_ _) | (with_reducible refine bdrew ?_) | (with_reducible refine balloc0 ?_) | (with_reducible refine balloc ?_ ?_) | (with_reducible apply btrans0; rotate_left; with_reducible assumption) | (with_reducible apply btrans; rotate_left; with_reducible assumption) | exact Below.refl _ _ | assumption | (apply btrans0; rotate_left; assumption) | (apply btrans; rotate_left; assumption) | (simp; done) | omega | (simp; omega)))
  have z2 : w.heap.size < w2.heap.size := by have := hb2.size; omega
  have HG2 := Lib.hid ((hb2.block _ z1).trans G1)
  clear hb2 G1 hB1
  go_wp2
  go_loopw [49] (fun i wr => ∃ (j : Nat) (u : List UInt8) (q : Bool) (l : List Int), i = .int .i64 j ∧ j ≤ 9 ∧ l.length = j ∧ u.length ≤ t.length ∧ Hid ((l ++ (rdW (9 - j) u q).1, (rdW (9 - j) u q).2) = (L, U, Q)) ∧ Rdx wr w2.heap.size u q ∧
    Hid (wr.heap[w2.heap.size + 1]? = some (.cells (arC l) 61 (0, 0))) ∧ Hid (wr.heap[w.heap.size]? = some (.cells #[.int .i64 0, .int .i64 0, .int .i64 0, .int .i64 0, .int .i64 0, .int .i64 0, .int .i64 0, .int .i64 0, .int .i64 0] 25 (0, 0))) ∧ Below w.heap.size w wr ∧ w2.heap.size + 1 < wr.heap.size) (fun i _ => 9 - (intOf i).toNat)
  case atStart =>
    refine ⟨0, t.drop k0, false, [], rfl, by omega, rfl, by rw [List.length_drop]; omega, Lib.hid (by exact HW.out), ?_, Lib.hid ?_, Lib.hid ?_, (by repeat' (first | (with_reducible refine bset ?_ ?_) | (with_reducible exact Below.refl _ _) | (with_reducible assumption) | (with_reducible refine bdrewN ?_ _) | (with_reducible refine bdrew ?_) | (with_reducible refine balloc0 ?_) | (with_reducible refine balloc ?_ ?_) | (with_reducible apply btrans0; rotate_left; with_reducible assumption) | (with_reducible apply btrans; rotate_left; with_reducible assumption) | exact Below.refl _ _ | assumption | (apply btrans0; rotate_left; assumption) | (apply btrans; rotate_left; assumption) | (simp; done) | omega | (simp; omega))), by simp⟩
    · exact (Below.heap_alloc _ _ _ (by simp)).trans heap_new
    · exact heap_new' (by simp)
    · exact (Below.heap_alloc _ _ _ (by simp; omega)).trans ((Below.heap_alloc _ _ _ z2).trans HG2.out)
  case round =>
    obtain ⟨j, u, q, l, rfl, hj, hl, hu, HLL, hD, HX, HG, hB, zr⟩ := hrel
    have HLN := Lib.hid hl
    have k0' : (0 : Int) ≤ (j : Int) := by omega
    clear hl
    by_cases hlt : j < 9
    · obtain ⟨⟨n, kk, e⟩, hr⟩ : ∃ r, readS u = r := ⟨_, rfl⟩
      obtain ⟨⟨N, U2, Q2⟩, hn⟩ : ∃ r, nmS u q n kk e = r := ⟨_, rfl⟩
      have hst := HLL.out
      rw [show 9 - j = 9 - (j + 1) + 1 by omega, rdW_step hr hn] at hst
      have hU2 : U2.length ≤ t.length := by
        unfold nmS at hn
        split at hn
        · obtain ⟨_, rfl, _⟩ := trip hn; exact hu
        · obtain ⟨_, rfl, _⟩ := trip hn; rw [List.length_drop]; omega
      have HR := Lib.hid hr
      have HN := Lib.hid hn
      have HST := Lib.hid hst
      have k1 : (j : Int) < 9 := by omega
      clear hst hr hn
      go_wp2_with fail
      refine (pnumber_any u q n kk e w2.heap.size _ hD (by omega) HR.out).mono ?_
      rw [HN.out]
      rintro e' w5 ⟨rfl, R5, K5, hb5⟩
      have z5 : w2.heap.size + 1 < w5.heap.size := by have := K5.1; omega
      have G5 := (K5.2 w.heap.size (by omega) (by omega)).trans HG.out
      have X5 := (K5.2 (w2.heap.size + 1) zr (by omega)).trans HX.out
      have ck : w5.cell? ⟨w2.heap.size + 1, j, none⟩ = some (.int .i64 0) := by rw [cellB X5 j]; exact arC_get HLN.out hlt
      have fk : w5.frozen? ⟨w2.heap.size + 1, j, none⟩ = false := frozenB X5 j
      have hB5 : Below w.heap.size w w5 := btrans hB hb5 (by omega)
      have HG5 := Lib.hid G5
      have HX5 := Lib.hid X5
      clear hb5 K5 G5 X5
      go_wp2
      go_roundw
      case rel =>
        refine ⟨j + 1, U2, Q2, l ++ [N], by go_num, by omega, by rw [List.length_append, HLN.out]; rfl, hU2, Lib.hid ?_, ?_, Lib.hid ?_, Lib.hid ?_, (by repeat' (first | (with_reducible refine bset ?_ ?_) | (with_reducible exact Below.refl _ _) | (with_reducible assumption) | (with_reducible refine bdrewN ?_ _) | (with_reducible refine bdrew ?_) | (with_reducible refine balloc0 ?_) | (with_reducible refine balloc ?_ ?_) | (with_reducible apply btrans0; rotate_left; with_reducible assumption) | (with_reducible apply btrans; rotate_left; with_reducible assumption) | exact Below.refl _ _ | assumption | (apply btrans0; rotate_left; assumption) | (apply btrans; rotate_left; assumption) | (simp; done) | omega | (simp; omega))), by simpa using z5⟩
        · rw [← HST.out]; simp
        · exact (World.heap_setCell_ne' _ _ _ (by show w2.heap.size + 1 ≠ w2.heap.size; omega)).trans R5
        · rw [← arC_set HLN.out hlt]; exact setB HX5.out j _
        · exact (World.heap_setCell_ne' _ _ _ (by show w2.heap.size + 1 ≠ w.heap.size; omega)).trans HG5.out
      case measure => simp [intOf]; omega
    · obtain rfl : j = 9 := by omega
      have hfin := HLL.out
      rw [show 9 - 9 = 0 from rfl, rdW] at hfin
      simp only [List.append_nil] at hfin
      obtain ⟨rfl, rfl, rfl⟩ := trip hfin
      obtain ⟨n0, n1, n2, n3, n4, n5, n6, n7, n8, rfl⟩ := list9 HLN.out
      have X := HX.out
      rw [show arC [n0, n1, n2, n3, n4, n5, n6, n7, n8] = #[.int .i64 n0, .int .i64 n1, .int .i64 n2, .int .i64 n3, .int .i64 n4, .int .i64 n5, .int .i64 n6, .int .i64 n7, .int .i64 n8] from rfl] at X
      have cx := fun o => cellB X o
      have cd := fun o => cellB hD o
      simp only [RdxC] at cd
      have hQ := HBW.out
      rw [show mkRep [n0, n1, n2, n3, n4, n5, n6, n7, n8] = ⟨n0, n1, n2, n3, n4, n5, n6, n7, n8⟩ from rfl] at hQ
      have zr0 : w2.heap.size < wr.heap.size := by omega
      have zr1 : w.heap.size < wr.heap.size := by omega
      have hne1 : wr.heap.size ≠ w.heap.size := by omega
      clear hfin HLL X HX hD
      have cg := fun o => cellB HG.out o
      have fg := fun o => frozenB HG.out o
      cases q with
      | true =>
        rw [if_pos rfl] at hQ
        have e := repDS_none H0.out hQ
        rw [HD.out] at e
        injection e with e1 e2
        subst e1 e2
        clear hQ
        go_wp2
        refine bodyPost_ret (v := .tuple #[.agg #[.int .i64 0, .int .i64 0, .int .i64 0, .int .i64 0, .int .i64 0, .int .i64 0, .int .i64 0, .int .i64 0, .int .i64 0], .int .i64 11]) (by simp [results, Tryd.results18, go_sem, World.cell?_setCell_same', zr1, cg]) rfl ?_
        exact ⟨rfl, (by repeat' (first | (with_reducible refine bset ?_ ?_) | (with_reducible exact Below.refl _ _) | (with_reducible assumption) | (with_reducible refine bdrewN ?_ _) | (with_reducible refine bdrew ?_) | (with_reducible refine balloc0 ?_) | (with_reducible refine balloc ?_ ?_) | (with_reducible apply btrans0; rotate_left; with_reducible assumption) | (with_reducible apply btrans; rotate_left; with_reducible assumption) | exact Below.refl _ _ | assumption | (apply btrans0; rotate_left; assumption) | (apply btrans; rotate_left; assumption) | (simp; done) | omega | (simp; omega)))⟩
      | false =>
        rw [if_neg (by simp)] at hQ
        by_cases hU0 : u = []
        case neg =>
          rw [if_pos hU0] at hQ
          have e := repDS_none H0.out hQ
          rw [HD.out] at e
          injection e with e1 e2
          subst e1 e2
          have hU1 : u.isEmpty = false := by simpa using hU0
          clear hQ
          go_wp2
          refine bodyPost_ret (v := .tuple #[.agg #[.int .i64 0, .int .i64 0, .int .i64 0, .int .i64 0, .int .i64 0, .int .i64 0, .int .i64 0, .int .i64 0, .int .i64 0], .int .i64 11]) (by simp [results, Tryd.results18, go_sem, World.cell?_setCell_same', zr1, cg]) rfl ?_
          exact ⟨rfl, (by repeat' (first | (with_reducible refine bset ?_ ?_) | (with_reducible exact Below.refl _ _) | (with_reducible assumption) | (with_reducible refine bdrewN ?_ _) | (with_reducible refine bdrew ?_) | (with_reducible refine balloc0 ?_) | (with_reducible refine balloc ?_ ?_) | (with_reducible apply btrans0; rotate_left; with_reducible assumption) | (with_reducible apply btrans; rotate_left; with_reducible assumption) | exact Below.refl _ _ | assumption | (apply btrans0; rotate_left; assumption) | (apply btrans; rotate_left; assumption) | (simp; done) | omega | (simp; omega)))⟩
        rw [if_neg (by simp [hU0])] at hQ
        subst hU0
        obtain ⟨CE, hCE⟩ : ∃ q, repE ⟨n0, n1, n2, n3, n4, n5, n6, n7, n8⟩ = q := ⟨_, rfl⟩
        rw [hCE] at hQ
        have HCE := Lib.hid hCE
        by_cases hz : CE = 0
        case neg =>
          rw [if_pos hz] at hQ
          have e := repDS_none H0.out hQ
          rw [HD.out] at e
          injection e with e1 e2
          subst e1 e2
          have hz1 : (CE != 0) = true := by rw [bne_iff_ne]; exact hz
          clear hQ hz hCE
          go_wp2_with fail
          refine (repCheck_any ⟨n0, n1, n2, n3, n4, n5, n6, n7, n8⟩ _).mono ?_
          rw [HCE.out]
          rintro e' w8 ⟨rfl, hb8⟩
          have G8 := (hb8.block _ (by simp; omega)).trans ((Below.heap_alloc _ _ _ zr1).trans HG.out)
          clear cg fg
          have cg := fun o => cellB G8 o
          have fg := fun o => frozenB G8 o
          go_wp2
          refine bodyPost_ret (v := .tuple #[.agg #[.int .i64 0, .int .i64 0, .int .i64 0, .int .i64 0, .int .i64 0, .int .i64 0, .int .i64 0, .int .i64 0, .int .i64 0], .int .i64 11]) (by simp [results, Tryd.results18, go_sem, World.cell?_setCell_same', cg]) rfl ?_
          exact ⟨rfl, (by repeat' (first | (with_reducible refine bset ?_ ?_) | (with_reducible exact Below.refl _ _) | (with_reducible assumption) | (with_reducible refine bdrewN ?_ _) | (with_reducible refine bdrew ?_) | (with_reducible refine balloc0 ?_) | (with_reducible refine balloc ?_ ?_) | (with_reducible apply btrans0; rotate_left; with_reducible assumption) | (with_reducible apply btrans; rotate_left; with_reducible assumption) | exact Below.refl _ _ | assumption | (apply btrans0; rotate_left; assumption) | (apply btrans; rotate_left; assumption) | (simp; done) | omega | (simp; omega)))⟩
        subst hz
        rw [if_neg (by simp)] at hQ
        have e := repDS_some H0.out HC.out hQ
        rw [HD.out] at e
        injection e with e1 e2
        subst e1 e2
        clear hQ hCE
        go_wp2_with fail
        refine (repCheck_any ⟨n0, n1, n2, n3, n4, n5, n6, n7, n8⟩ _).mono ?_
        rw [HCE.out]
        rintro e' w8 ⟨rfl, hb8⟩
        have G8 := (hb8.block _ (by simp; omega)).trans ((Below.heap_alloc _ _ _ zr1).trans HG.out)
        have X8 : w8.heap[wr.heap.size]? = some (.cells #[.int .i64 n0, .int .i64 n1, .int .i64 n2, .int .i64 n3, .int .i64 n4, .int .i64 n5, .int .i64 n6, .int .i64 n7, .int .i64 n8] 25 (0, 0)) := (hb8.block _ (by simp)).trans heap_new
        have c8 := fun o => cellB X8 o
        clear cg fg
        have cg := fun o => cellB G8 o
        have fg := fun o => frozenB G8 o
        go_wp2
        refine bodyPost_ret (v := .tuple #[.agg #[.int .i64 n0, .int .i64 n1, .int .i64 n2, .int .i64 n3, .int .i64 n4, .int .i64 n5, .int .i64 n6, .int .i64 n7, .int .i64 n8], .int .i64 0]) (by simp [results, Tryd.results18, go_sem, World.cell?_setCell_same', cg]) rfl ?_
        exact ⟨rfl, (by repeat' (first | (with_reducible refine bset ?_ ?_) | (with_reducible exact Below.refl _ _) | (with_reducible assumption) | (with_reducible refine bdrewN ?_ _) | (with_reducible refine bdrew ?_) | (with_reducible refine balloc0 ?_) | (with_reducible refine balloc ?_ ?_) | (with_reducible apply btrans0; rotate_left; with_reducible assumption) | (with_reducible apply btrans; rotate_left; with_reducible assumption) | exact Below.refl _ _ | assumption | (apply btrans0; rotate_left; assumption) | (apply btrans; rotate_left; assumption) | (simp; done) | omega | (simp; omega)))⟩
end Go.Proofs.YtcmkpnjbnjbegaaDoor
