/- Layer 13 (bundle), the program: the decoder's fields; the numbers' places. -/
import Derived.Test.YthedoidpapodgaaJm
import Derived.Test.YthedoidpapodgaaJn
set_option linter.unusedVariables false
set_option linter.unusedSimpArgs false
namespace Go.Proofs.Ythedoidpapodgaa
open Go Go.RowKit
attribute [local go_sem] B_getElem B_size B_app B_extract B_get B_toList

/-- the decoder's cells -/
def DecC (s : List UInt8) (a : Int) (q : Bool) : Array Value := #[.string (B s), .int .i64 a, .bool q]
/-- a decoder in box rb -/
def Dcr (w : World) (rb : Nat) (s : List UInt8) (a : Int) (q : Bool) : Prop := w.heap[rb]? = some (.cells (DecC s a q) 74 (0, 0))
theorem Dcr.lt {w : World} {rb : Nat} {s : List UInt8} {a : Int} {q : Bool} (h : Dcr w rb s a q) : rb < w.heap.size := by
  rcases Nat.lt_or_ge rb w.heap.size with z | z
  · exact z
  · unfold Dcr at h; rw [Array.getElem?_eq_none z] at h; cases h
/-- where the decoder stands behind a field of k bytes -/
def stA (a : Nat) (q : Bool) (k e : Int) : Nat := if q = true ∨ e ≠ 0 then a else a + k.toNat
def stQ (q : Bool) (e : Int) : Bool := q || decide (e ≠ 0)
def DcrPost (s : List UInt8) (v : Value) (a : Int) (q : Bool) (rb : Nat) (w : World) (e' : Ending) (w' : World) : Prop :=
  e' = .returned v ∧ Dcr w' rb s a q ∧ KpX w.heap.size rb w w' ∧ Below rb w w'

set_option maxHeartbeats 1000000 in
theorem drest_any (s : List UInt8) (a : Nat) (q : Bool) (rb : Nat) (w : World) (h : Dcr w rb s a q) (ha : a ≤ s.length) (hs : s.length ≤ 1000000000) :
    Calls Try.prog 56 #[.pointer (some ⟨rb, 0, none⟩)] w fun e w' => e = .returned (.string (B (s.drop a))) ∧ Below w.heap.size w w' := by
  unfold Dcr at h
  have ca := fun o => cellB h o
  simp only [DecC] at ca
  have ha2 : (a : Int) ≤ (s.length : Int) := by omega
  have ha0 : (0 : Int) ≤ (a : Int) := by omega
  have htk : (s.drop a).take (s.length - a) = s.drop a := List.take_of_length_le (by rw [List.length_drop]; exact Nat.le_refl _)
  clear h
  go_enter Try.func56, Try.ntmps56
  go_wp2
  refine wp_region_plan (fun V => ∀ o, V.cell? ⟨rb, o, none⟩ = #[Value.string (B s), .int .i64 a, .bool q][o]?) [0, 0, 0, 1, 0, 0, 0, 1, 0, 0] [0, 1, 2, 3, 4, 5, 6, 7, 8, 9] (by kernel_rfl) (by kernel_rfl) ?_ ?_
  case refine_1 => exact ca
  (iterate 10 (refine plan_held rfl (by decide) (by rfl) (fun w1 hS => by (try (have hS := hS rfl; obtain hS := hS; repeat (obtain ⟨_, hS⟩ := hS))); go_simp; rfl) ?_; simp only [Act.put, List.setIfInBounds_toArray, List.set_cons_zero, List.set_cons_succ]))
  refine plan_done ?_
  go_wp2
  go_ret
  exact ⟨rfl, (by repeat' (first | with_reducible (first | refine bset ?_ ?_ | exact Below.refl _ _ | assumption | refine bdrewN ?_ _ | refine bdrew ?_ | refine balloc0 ?_ | refine balloc ?_ ?_ | (apply btrans0; rotate_left; assumption) | (apply btrans; rotate_left; assumption)) | exact Below.refl _ _ | assumption | (apply btrans0; rotate_left; assumption) | (apply btrans; rotate_left; assumption) | (simp; done) | omega | (simp; omega)))⟩

set_option maxHeartbeats 1000000 in
theorem pass_any (s : List UInt8) (a : Nat) (q : Bool) (k e : Int) (rb : Nat) (w : World) (h : Dcr w rb s a q) (ha : (a : Int) + k ≤ 2000000000) (hk : 0 ≤ k) :
    Calls Try.prog 80 #[.pointer (some ⟨rb, 0, none⟩), .int .i64 k, .int .i64 e] w fun e' w' => (∃ v, e' = .returned v) ∧ Dcr w' rb s (stA a q k e) (stQ q e) ∧ KpX w.heap.size rb w w' ∧ Below rb w w' := by
  have hrb := h.lt
  have hwk : IntKind.i64.wrap ((a : Int) + k) = (a : Int) + k := by rw [IntKind.wrap_i64]; omega
  have ha0 : (0 : Int) ≤ (a : Int) := by omega
  unfold Dcr at h
  have ca := fun o => cellB h o
  have fa := fun o => frozenB h o
  have H := Lib.hid h
  simp only [DecC] at ca
  clear h
  cases q
  case true =>
    rw [show stA a true k e = a from by unfold stA; rw [if_pos (.inl rfl)], show stQ true e = true from rfl]
    go_enter Try.func80, Try.ntmps80
    go_wp2
    go_end0
    exact ⟨⟨_, rfl⟩, by simpa [DecC, Dcr] using setB H.out 2 (.bool true), fld_set (Below.refl _ _) hrb⟩
  case false =>
    by_cases he : e = 0
    · subst he
      rw [show stQ false 0 = false from rfl]
      have HA : Hid (((stA a false k 0 : Nat) : Int) = (a : Int) + k) := Lib.hid (by unfold stA; rw [if_neg (by simp)]; omega)
      go_enter Try.func80, Try.ntmps80
      go_wp2
      go_end0
      refine ⟨⟨_, rfl⟩, ?_, ?_⟩
      · rw [HA.out]
        have h1 := setB H.out 2 (.bool false)
        have h2 := setB h1 1 (.int .i64 ((a : Int) + k))
        simpa [DecC, Dcr] using h2
      · have h1 := fld_set (o := 2) (u := .bool false) (Below.refl w.heap.size w) hrb
        have h2 := fld_set (w := w.setCell ⟨rb, 2, none⟩ (.bool false)) (o := 1) (u := .int .i64 ((a : Int) + k)) (Below.refl _ _) (rb := rb) (by simpa using hrb)
        refine ⟨h1.1.trans (by simpa using h2.1), h1.2.trans h2.2⟩
    · have he' : (e == 0) = false := beq_eq_false_iff_ne.2 he
      have he2 : (e != 0) = true := by rw [bne_iff_ne]; exact he
      rw [show stA a false k e = a from by unfold stA; rw [if_pos (.inr he)], show stQ false e = true from by unfold stQ; simp [he]]
      clear he
      go_enter Try.func80, Try.ntmps80
      go_wp2
      go_end0
      exact ⟨⟨_, rfl⟩, by simpa [DecC, Dcr] using setB H.out 2 (.bool true), fld_set (Below.refl _ _) hrb⟩

theorem stQ_err {q : Bool} {e : Int} (h : stQ q e = false) : q = false ∧ e = 0 := by
  unfold stQ at h; simpa using h
set_option maxHeartbeats 1000000 in
theorem dinteger_any (s : List UInt8) (a : Nat) (q : Bool) (n k e : Int) (rb : Nat) (w : World) (h : Dcr w rb s a q) (ha : a ≤ s.length) (hs : s.length ≤ 1000000000) (hr : readS (s.drop a) = (n, k, e)) :
    Calls Try.prog 54 #[.pointer (some ⟨rb, 0, none⟩)] w (DcrPost s (.int .i64 n) (stA a q k e) (stQ q e) rb w) := by
  have hrb := h.lt
  have hok := readS_ok hr
  have hl : (s.drop a).length ≤ 1000000000 := by rw [List.length_drop]; omega
  obtain ⟨hk0, hk9⟩ : 0 ≤ k ∧ k ≤ 9 := by
    by_cases he : e = 0
    · have := hok.1 he; omega
    · have := hok.2.2 he; omega
  have HR := Lib.hid hr
  have H := Lib.hid h
  clear h hr hok
  go_enter Try.func54, Try.ntmps54
  go_wp2_with fail
  refine (drest_any s a q rb _ H.out ha hs).mono ?_
  rintro e' w1 ⟨rfl, hb1⟩
  go_wp2_with fail
  refine (readint_any (s.drop a) n k e _ hl HR.out).mono ?_
  rintro e' w2 ⟨rfl, hb2⟩
  have hB2 : Below w.heap.size w w2 := (by repeat' (first | with_reducible (first | refine bset ?_ ?_ | exact Below.refl _ _ | assumption | refine bdrewN ?_ _ | refine bdrew ?_ | refine balloc0 ?_ | refine balloc ?_ ?_ | (apply btrans0; rotate_left; assumption) | (apply btrans; rotate_left; assumption)) | exact Below.refl _ _ | assumption | (apply btrans0; rotate_left; assumption) | (apply btrans; rotate_left; assumption) | (simp; done) | omega | (simp; omega)))
  have h2 : Dcr w2 rb s a q := by unfold Dcr; rw [hB2.block rb hrb]; exact H.out
  have H2 := Lib.hid h2
  clear h2 hb1 hb2
  go_wp2_with fail
  refine (pass_any s a q k e rb _ H2.out (by omega) hk0).mono ?_
  rintro e' w3 ⟨⟨v, rfl⟩, h3, k3, b3⟩
  go_wp2
  go_ret
  obtain ⟨k4, b4⟩ := fld_none hB2 hrb
  exact ⟨rfl, h3, k4.trans ⟨k3.1, fun g hg hz => k3.2 g (by have := hB2.size; omega) hz⟩, b4.trans b3⟩
theorem textS_ok0 {l t : List UInt8} {k e : Int} (h : textS l = (t, k, e)) : 0 ≤ k ∧ k ≤ l.length := by
  have hok := textS_ok h
  by_cases he : e = 0
  · have := hok.1 he; omega
  · have := hok.2 he; omega
set_option maxHeartbeats 1000000 in
theorem dtext_any (s : List UInt8) (a : Nat) (q : Bool) (t : List UInt8) (k e : Int) (rb : Nat) (w : World) (h : Dcr w rb s a q) (ha : a ≤ s.length) (hs : s.length ≤ 1000000000) (hr : textS (s.drop a) = (t, k, e)) :
    Calls Try.prog 53 #[.pointer (some ⟨rb, 0, none⟩)] w (DcrPost s (.string (B t)) (stA a q k e) (stQ q e) rb w) := by
  have hrb := h.lt
  have hl : (s.drop a).length ≤ 1000000000 := by rw [List.length_drop]; omega
  obtain ⟨hk0, hk9⟩ := textS_ok0 hr
  have HR := Lib.hid hr
  have H := Lib.hid h
  clear h hr
  go_enter Try.func53, Try.ntmps53
  go_wp2_with fail
  refine (drest_any s a q rb _ H.out ha hs).mono ?_
  rintro e' w1 ⟨rfl, hb1⟩
  go_wp2_with fail
  refine (readtext_any (s.drop a) t k e _ hl HR.out).mono ?_
  rintro e' w2 ⟨rfl, hb2⟩
  have hB2 : Below w.heap.size w w2 := (by repeat' (first | with_reducible (first | refine bset ?_ ?_ | exact Below.refl _ _ | assumption | refine bdrewN ?_ _ | refine bdrew ?_ | refine balloc0 ?_ | refine balloc ?_ ?_ | (apply btrans0; rotate_left; assumption) | (apply btrans; rotate_left; assumption)) | exact Below.refl _ _ | assumption | (apply btrans0; rotate_left; assumption) | (apply btrans; rotate_left; assumption) | (simp; done) | omega | (simp; omega)))
  have h2 : Dcr w2 rb s a q := by unfold Dcr; rw [hB2.block rb hrb]; exact H.out
  have H2 := Lib.hid h2
  clear h2 hb1 hb2
  go_wp2_with fail
  refine (pass_any s a q k e rb _ H2.out (by omega) hk0).mono ?_
  rintro e' w3 ⟨⟨v, rfl⟩, h3, k3, b3⟩
  go_wp2
  go_ret
  obtain ⟨k4, b4⟩ := fld_none hB2 hrb
  exact ⟨rfl, h3, k4.trans ⟨k3.1, fun g hg hz => k3.2 g (by have := hB2.size; omega) hz⟩, b4.trans b3⟩
theorem decAS_len {l : List UInt8} {L : List Blk} {k : Nat} {e : Int} (h : decAS l = (L, k, e)) : k ≤ l.length := by
  by_cases he : e = 0
  · subst he
    obtain ⟨⟨r, rfl⟩, rfl, _⟩ := enc_decA h
    rw [List.length_append]; omega
  · unfold decAS at h
    split at h
    · obtain ⟨_, rfl, _⟩ := trip h; omega
    · split at h
      · obtain ⟨_, rfl, _⟩ := trip h; omega
      · split at h
        · obtain ⟨_, rfl, _⟩ := trip h; omega
        · obtain ⟨_, _, rfl⟩ := trip h; exact absurd rfl he
/-- the blocks that a decoder reads lie in new memory -/
def DcrBPost (s : List UInt8) (L : List Blk) (a : Int) (q : Bool) (rb : Nat) (w : World) (e' : Ending) (w' : World) : Prop :=
  ∃ v, e' = .returned v ∧ RBlks w' w'.heap.size v L ∧ RFrom w.heap.size v ∧ Dcr w' rb s a q ∧ KpX w.heap.size rb w w' ∧ Below rb w w'
set_option maxHeartbeats 1000000 in
theorem dblocks_any (s : List UInt8) (a : Nat) (q : Bool) (L : List Blk) (k : Nat) (e : Int) (rb : Nat) (w : World) (h : Dcr w rb s a q) (ha : a ≤ s.length) (hs : s.length ≤ 1000000000) (hr : decAS (s.drop a) = (L, k, e)) :
    Calls Try.prog 55 #[.pointer (some ⟨rb, 0, none⟩)] w (DcrBPost s L (stA a q k e) (stQ q e) rb w) := by
  have hrb := h.lt
  have hl : (s.drop a).length ≤ 1000000000 := by rw [List.length_drop]; omega
  have hk := decAS_len hr
  have HR := Lib.hid hr
  have H := Lib.hid h
  clear h hr
  go_enter Try.func55, Try.ntmps55
  go_wp2_with fail
  refine (drest_any s a q rb _ H.out ha hs).mono ?_
  rintro e' w1 ⟨rfl, hb1⟩
  go_wp2_with fail
  refine (decodeAll_any (s.drop a) L k e _ hl HR.out).mono ?_
  rintro e' w2 ⟨v, rfl, hv, hb2, hf2⟩
  obtain ⟨va, vc, rfl, hvv⟩ := id hv
  have HV := Lib.hid hv
  have HF := Lib.hid hf2
  have hB2 : Below w.heap.size w w2 := (by repeat' (first | with_reducible (first | refine bset ?_ ?_ | exact Below.refl _ _ | assumption | refine bdrewN ?_ _ | refine bdrew ?_ | refine balloc0 ?_ | refine balloc ?_ ?_ | (apply btrans0; rotate_left; assumption) | (apply btrans; rotate_left; assumption)) | exact Below.refl _ _ | assumption | (apply btrans0; rotate_left; assumption) | (apply btrans; rotate_left; assumption) | (simp; done) | omega | (simp; omega)))
  have z1 : w.heap.size ≤ w1.heap.size := hb1.size
  have h2 : Dcr w2 rb s a q := by unfold Dcr; rw [hB2.block rb hrb]; exact H.out
  have H2 := Lib.hid h2
  clear h2 hb1 hb2 hv hf2 hvv
  go_wp2_with fail
  refine (pass_any s a q k e rb _ H2.out (by omega) (by omega)).mono ?_
  rintro e' w3 ⟨⟨v, rfl⟩, h3, k3, b3⟩
  go_wp2
  go_ret
  obtain ⟨k4, b4⟩ := fld_none hB2 hrb
  refine ⟨_, rfl, ?_, HF.out.mono z1, h3, k4.trans ⟨k3.1, fun g hg hz => k3.2 g (by have := hB2.size; omega) hz⟩, b4.trans b3⟩
  exact HV.out.keepFrom (HF.out.mono z1) (fun b o hb1 hb2 => k3.cell (p := ⟨b, o, none⟩) (by exact hb2) (by show b ≠ rb; omega)) k3.1

/-- the places of a bundle's numbers -/
def ptrs (bb : Nat) : Array Value := #[.pointer (some ⟨bb, 0, none⟩), .pointer (some ⟨bb, 1, none⟩), .pointer (some ⟨bb, 2, none⟩), .pointer (some ⟨bb, 3, none⟩), .pointer (some ⟨bb, 4, none⟩), .pointer (some ⟨bb, 5, none⟩), .pointer (some ⟨bb, 6, none⟩), .pointer (some ⟨bb, 7, none⟩), .pointer (some ⟨bb, 8, none⟩), .pointer (some ⟨bb, 9, none⟩)]
theorem ptrs_get (bb k : Nat) (h : k < 10) : (ptrs bb)[k]? = some (.pointer (some ⟨bb, k, none⟩)) := by
  match k, h with
  | 0, _ => rfl
  | 1, _ => rfl
  | 2, _ => rfl
  | 3, _ => rfl
  | 4, _ => rfl
  | 5, _ => rfl
  | 6, _ => rfl
  | 7, _ => rfl
  | 8, _ => rfl
  | 9, _ => rfl
set_option maxRecDepth 100000 in
set_option maxHeartbeats 2000000 in
theorem numbers_any (bb : Nat) (w : World) :
    Calls Try.prog 34 #[.pointer (some ⟨bb, 0, none⟩)] w fun e w' => e = .returned (.agg (ptrs bb)) ∧ Below w.heap.size w w' := by
  unfold ptrs
  go_enter Try.func34, Try.ntmps34
  go_wp2
  refine wp_region_plan (fun _ => True) [0, 0, 0, 0, 0, 0, 0, 0, 0, 0, 0, 0, 0, 0, 0, 0, 0, 0, 0, 0, 0, 0, 0, 0, 0, 0, 0, 0, 0, 0, 0, 0, 0, 3] [0, 1, 2, 3, 4, 5, 6, 7, 8, 9, 10, 11, 12, 13, 14, 15, 16, 17, 18, 19, 20, 21, 22, 23, 24, 25, 26, 27, 28, 29, 30, 31, 32, 33] (by kernel_rfl) (by kernel_rfl) ?_ ?_
  case refine_1 => trivial
  (iterate 33 (refine plan_held rfl (by decide) (by rfl) (fun w1 hS => by (try (have hS := hS rfl; obtain hS := hS; repeat (obtain ⟨_, hS⟩ := hS))); go_simp; rfl) ?_; simp only [Act.put, List.setIfInBounds_toArray, List.set_cons_zero, List.set_cons_succ]))
  (refine plan_late rfl rfl (by rfl) (fun K hK => ?_); go_simp)
  (refine hK _ _ ?_; clear hK K; (try simp only [Act.put, List.setIfInBounds_toArray, List.set_cons_zero, List.set_cons_succ]))
  refine plan_done ?_
  go_wp2
  refine bodyPost_ret (v := .agg #[.pointer (some ⟨bb, 0, none⟩), .pointer (some ⟨bb, 1, none⟩), .pointer (some ⟨bb, 2, none⟩), .pointer (some ⟨bb, 3, none⟩), .pointer (some ⟨bb, 4, none⟩), .pointer (some ⟨bb, 5, none⟩), .pointer (some ⟨bb, 6, none⟩), .pointer (some ⟨bb, 7, none⟩), .pointer (some ⟨bb, 8, none⟩), .pointer (some ⟨bb, 9, none⟩)]) (by simp [results, Try.results34, go_sem, World.cell?_setCell_same']) rfl ?_
  exact ⟨rfl, (by repeat' (first | with_reducible (first | refine bset ?_ ?_ | exact Below.refl _ _ | assumption | refine bdrewN ?_ _ | refine bdrew ?_ | refine balloc0 ?_ | refine balloc ?_ ?_ | (apply btrans0; rotate_left; assumption) | (apply btrans; rotate_left; assumption)) | exact Below.refl _ _ | assumption | (apply btrans0; rotate_left; assumption) | (apply btrans; rotate_left; assumption) | (simp; done) | omega | (simp; omega)))⟩
end Go.Proofs.Ythedoidpapodgaa
