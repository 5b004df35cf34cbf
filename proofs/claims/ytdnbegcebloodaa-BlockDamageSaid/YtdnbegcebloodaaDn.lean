/- Layer 12, the reference: Decode. -/
import Derived.Test.YtdnbegcebloodaaDm
set_option linter.unusedVariables false
set_option linter.unusedSimpArgs false
namespace Go.Proofs.Ytdnbegcebloodaa
open Go Go.RowKit
attribute [local go_sem] B_getElem B_size B_app B_extract B_get B_toList

set_option maxRecDepth 100000 in
set_option maxHeartbeats 4000000 in
theorem rdecode_any (s : List UInt8) (x : Blk) (k e : Int) (w : World) (hs : s.length ≤ 1000000000) (hr : decS s = (x, k, e)) :
    Calls Try.prog 36 #[.string (B s)] w fun e' w' => e' = .returned (.tuple #[.agg #[.int .i64 x.kind, .int .i64 x.flags, .string (B x.data)], .int .i64 k, .int .i64 e]) ∧ Below w.heap.size w w' := by
  obtain ⟨⟨t, c, e0⟩, h0⟩ : ∃ q, openS tailB s = q := ⟨_, rfl⟩
  have HL := hr
  unfold decS at HL
  rw [h0] at HL
  simp only at HL
  have hok := openS_len h0
  have H0 := Lib.hid h0
  clear hr h0
  by_cases he : e0 = 0
  case neg =>
    rw [if_pos he] at HL
    obtain ⟨rfl, rfl, rfl⟩ := trip HL
    have he' : (e0 == 0) = false := beq_eq_false_iff_ne.2 he
    clear HL hok
    go_enter Try.func36, Try.ntmps36
    go_wp2_with fail
    refine (ropen_any s t c e0 _ hs H0.out).mono ?_
    rintro e' w1 ⟨rfl, hb1⟩
    have z1 : w.heap.size < w1.heap.size := by have := hb1.size; simp at this; omega
    have G1 : w1.heap[w.heap.size]? = some (.cells #[.int .i64 0, .int .i64 0, .string (B [])] 29 (0, 0)) := (hb1.block _ (by simp)).trans heap_new
    have ca := fun o => cellB G1 o
    have fa := fun o => frozenB G1 o
    go_wp2
    refine bodyPost_ret (v := .tuple #[.agg #[.int .i64 0, .int .i64 0, .string { data := #[] }], .int .i64 0, .int .i64 e0]) (by simp [results, Try.results36, go_sem, World.cell?_setCell_same', ca]) rfl ?_
    exact ⟨rfl, (by repeat' (first | (with_reducible refine bset ?_ ?_) | (with_reducible exact Below.refl _ _) | (with_reducible assumption) | (with_reducible refine bdrewN ?_ _) | (with_reducible refine bdrew ?_) | (with_reducible refine balloc0 ?_) | (with_reducible refine balloc ?_ ?_) | (with_reducible apply btrans0; rotate_left; with_reducible assumption) | (with_reducible apply btrans; rotate_left; with_reducible assumption) | exact Below.refl _ _ | assumption | (apply btrans0; rotate_left; assumption) | (apply btrans; rotate_left; assumption) | (simp; done) | omega | (simp; omega)))⟩
  subst he
  rw [if_neg (by simp)] at HL
  unfold bodyS at HL
  obtain ⟨⟨n1, k1, e1⟩, h1⟩ : ∃ q, readS t = q := ⟨_, rfl⟩
  rw [h1] at HL
  simp only at HL
  have r1 := readS_ok h1
  have H1 := Lib.hid h1
  clear h1
  have ht : t.length ≤ 1000000000 := by omega
  by_cases he1 : e1 = 0
  case neg =>
    rw [if_pos he1] at HL
    obtain ⟨rfl, rfl, rfl⟩ := trip HL
    have he' : (e1 == 0) = false := beq_eq_false_iff_ne.2 he1
    clear HL hok r1
    go_enter Try.func36, Try.ntmps36
    go_wp2_with fail
    refine (ropen_any s t c 0 _ hs H0.out).mono ?_
    rintro e' w1 ⟨rfl, hb1⟩
    have z1 : w.heap.size < w1.heap.size := by have := hb1.size; simp at this; omega
    have G1 : w1.heap[w.heap.size]? = some (.cells #[.int .i64 0, .int .i64 0, .string (B [])] 29 (0, 0)) := (hb1.block _ (by simp)).trans heap_new
    have ca := fun o => cellB G1 o
    have fa := fun o => frozenB G1 o
    go_wp2_with fail
    refine (rreadint_any t n1 k1 e1 _ (by omega) H1.out).mono ?_
    rintro e' w2 ⟨rfl, rfl⟩
    go_wp2
    refine bodyPost_ret (v := .tuple #[.agg #[.int .i64 0, .int .i64 0, .string { data := #[] }], .int .i64 0, .int .i64 11]) (by simp [results, Try.results36, go_sem, World.cell?_setCell_same', ca]) rfl ?_
    exact ⟨rfl, (by repeat' (first | (with_reducible refine bset ?_ ?_) | (with_reducible exact Below.refl _ _) | (with_reducible assumption) | (with_reducible refine bdrewN ?_ _) | (with_reducible refine bdrew ?_) | (with_reducible refine balloc0 ?_) | (with_reducible refine balloc ?_ ?_) | (with_reducible apply btrans0; rotate_left; with_reducible assumption) | (with_reducible apply btrans; rotate_left; with_reducible assumption) | exact Below.refl _ _ | assumption | (apply btrans0; rotate_left; assumption) | (apply btrans; rotate_left; assumption) | (simp; done) | omega | (simp; omega)))⟩
  subst he1
  rw [if_neg (by simp)] at HL
  obtain ⟨g1, _, g3, _, _⟩ := r1.1 rfl
  obtain ⟨p1, rfl⟩ : ∃ p : Nat, k1 = p := ⟨k1.toNat, by omega⟩
  simp only [Int.toNat_natCast] at HL
  have i1 : (0 : Int) ≤ (p1 : Int) := by omega
  have i2 : (p1 : Int) ≤ (t.length : Int) := by omega
  have i3 : (t.drop p1).take (t.length - p1) = t.drop p1 := List.take_of_length_le (by rw [List.length_drop]; exact Nat.le_refl _)
  obtain ⟨⟨n2, k2, e2⟩, h2⟩ : ∃ q, readS (t.drop p1) = q := ⟨_, rfl⟩
  rw [h2] at HL
  simp only at HL
  have r2 := readS_ok h2
  rw [List.length_drop] at r2
  have H2 := Lib.hid h2
  have hl1 : (t.drop p1).length ≤ 9223372036854775807 := by rw [List.length_drop]; omega
  clear h2 g1 g3 r1
  by_cases he2 : e2 = 0
  case neg =>
    rw [if_pos he2] at HL
    obtain ⟨rfl, rfl, rfl⟩ := trip HL
    have he' : (e2 == 0) = false := beq_eq_false_iff_ne.2 he2
    clear HL hok r2
    go_enter Try.func36, Try.ntmps36
    go_wp2_with fail
    refine (ropen_any s t c 0 _ hs H0.out).mono ?_
    rintro e' w1 ⟨rfl, hb1⟩
    have z1 : w.heap.size < w1.heap.size := by have := hb1.size; simp at this; omega
    have G1 : w1.heap[w.heap.size]? = some (.cells #[.int .i64 0, .int .i64 0, .string (B [])] 29 (0, 0)) := (hb1.block _ (by simp)).trans heap_new
    have ca := fun o => cellB G1 o
    have fa := fun o => frozenB G1 o
    go_wp2_with fail
    refine (rreadint_any t n1 p1 0 _ (by omega) H1.out).mono ?_
    rintro e' w2 ⟨rfl, rfl⟩
    go_wp2_with fail
    refine (rreadint_any (t.drop p1) n2 k2 e2 _ hl1 H2.out).mono ?_
    rintro e' w2 ⟨rfl, rfl⟩
    go_wp2
    refine bodyPost_ret (v := .tuple #[.agg #[.int .i64 0, .int .i64 0, .string { data := #[] }], .int .i64 0, .int .i64 11]) (by simp [results, Try.results36, go_sem, World.cell?_setCell_same', ca]) rfl ?_
    exact ⟨rfl, (by repeat' (first | (with_reducible refine bset ?_ ?_) | (with_reducible exact Below.refl _ _) | (with_reducible assumption) | (with_reducible refine bdrewN ?_ _) | (with_reducible refine bdrew ?_) | (with_reducible refine balloc0 ?_) | (with_reducible refine balloc ?_ ?_) | (with_reducible apply btrans0; rotate_left; with_reducible assumption) | (with_reducible apply btrans; rotate_left; with_reducible assumption) | exact Below.refl _ _ | assumption | (apply btrans0; rotate_left; assumption) | (apply btrans; rotate_left; assumption) | (simp; done) | omega | (simp; omega)))⟩
  subst he2
  rw [if_neg (by simp)] at HL
  obtain ⟨g1, _, g3, _, _⟩ := r2.1 rfl
  obtain ⟨p2, rfl⟩ : ∃ p : Nat, k2 = p := ⟨k2.toNat, by omega⟩
  simp only [Int.toNat_natCast] at HL
  obtain ⟨q, hq⟩ : ∃ q, p1 + p2 = q := ⟨_, rfl⟩
  rw [hq] at HL
  have j0 : (p1 : Int) + (p2 : Int) = (q : Int) := by omega
  have j1 : (0 : Int) ≤ (q : Int) := by omega
  have j2 : (q : Int) ≤ (t.length : Int) := by omega
  have j3 : (t.drop q).take (t.length - q) = t.drop q := List.take_of_length_le (by rw [List.length_drop]; exact Nat.le_refl _)
  have j4 : IntKind.i64.wrap (q : Int) = (q : Int) := by rw [IntKind.wrap_i64]; omega
  have hl2 : (t.drop q).length ≤ 1000000000 := by rw [List.length_drop]; omega
  obtain ⟨⟨d, k3, e3⟩, h3⟩ : ∃ x, textS (t.drop q) = x := ⟨_, rfl⟩
  rw [h3] at HL
  simp only at HL
  have r3 := textS_ok h3
  rw [List.length_drop] at r3
  have H3 := Lib.hid h3
  have hdl : d.length ≤ 9223372036854775807 := by
    by_cases h : e3 = 0
    · have := (r3.1 h).2.2; omega
    · rw [(r3.2 h).1]; simp
  clear h3 g1 g3 r2 hq
  by_cases he3 : e3 = 0
  case neg =>
    rw [if_pos he3] at HL
    obtain ⟨rfl, rfl, rfl⟩ := trip HL
    have he' : (e3 == 0) = false := beq_eq_false_iff_ne.2 he3
    clear HL hok r3
    go_enter Try.func36, Try.ntmps36
    go_wp2_with fail
    refine (ropen_any s t c 0 _ hs H0.out).mono ?_
    rintro e' w1 ⟨rfl, hb1⟩
    have z1 : w.heap.size < w1.heap.size := by have := hb1.size; simp at this; omega
    have G1 : w1.heap[w.heap.size]? = some (.cells #[.int .i64 0, .int .i64 0, .string (B [])] 29 (0, 0)) := (hb1.block _ (by simp)).trans heap_new
    have ca := fun o => cellB G1 o
    have fa := fun o => frozenB G1 o
    go_wp2_with fail
    refine (rreadint_any t n1 p1 0 _ (by omega) H1.out).mono ?_
    rintro e' w2 ⟨rfl, rfl⟩
    go_wp2_with fail
    refine (rreadint_any (t.drop p1) n2 p2 0 _ hl1 H2.out).mono ?_
    rintro e' w2 ⟨rfl, rfl⟩
    go_wp2_with fail
    refine (rreadtext_any (t.drop q) d k3 e3 _ (by omega) H3.out).mono ?_
    rintro e' w2 ⟨rfl, rfl⟩
    go_wp2
    refine bodyPost_ret (v := .tuple #[.agg #[.int .i64 0, .int .i64 0, .string { data := #[] }], .int .i64 0, .int .i64 11]) (by simp [results, Try.results36, go_sem, World.cell?_setCell_same', World.cell?_alloc_lt, z1, ca]) rfl ?_
    exact ⟨rfl, (by repeat' (first | (with_reducible refine bset ?_ ?_) | (with_reducible exact Below.refl _ _) | (with_reducible assumption) | (with_reducible refine bdrewN ?_ _) | (with_reducible refine bdrew ?_) | (with_reducible refine balloc0 ?_) | (with_reducible refine balloc ?_ ?_) | (with_reducible apply btrans0; rotate_left; with_reducible assumption) | (with_reducible apply btrans; rotate_left; with_reducible assumption) | exact Below.refl _ _ | assumption | (apply btrans0; rotate_left; assumption) | (apply btrans; rotate_left; assumption) | (simp; done) | omega | (simp; omega)))⟩
  subst he3
  rw [if_neg (by simp)] at HL
  obtain ⟨g1, g3, _⟩ := r3.1 rfl
  obtain ⟨p3, rfl⟩ : ∃ p : Nat, k3 = p := ⟨k3.toNat, by omega⟩
  simp only [Int.toNat_natCast] at HL
  obtain ⟨m, hm⟩ : ∃ m, q + p3 = m := ⟨_, rfl⟩
  simp only [hm] at HL
  have m0 : (q : Int) + (p3 : Int) = (m : Int) := by omega
  have m4 : IntKind.i64.wrap (m : Int) = (m : Int) := by rw [IntKind.wrap_i64]; omega
  clear r3 hok g1
  by_cases hal : m = t.length
  case neg =>
    rw [if_pos hal] at HL
    obtain ⟨rfl, rfl, rfl⟩ := trip HL
    have hal2 : ¬ (m : Int) = (t.length : Int) := by omega
    clear HL hal g3 hm
    go_enter Try.func36, Try.ntmps36
    go_wp2_with fail
    refine (ropen_any s t c 0 _ hs H0.out).mono ?_
    rintro e' w1 ⟨rfl, hb1⟩
    have z1 : w.heap.size < w1.heap.size := by have := hb1.size; simp at this; omega
    have G1 : w1.heap[w.heap.size]? = some (.cells #[.int .i64 0, .int .i64 0, .string (B [])] 29 (0, 0)) := (hb1.block _ (by simp)).trans heap_new
    have ca := fun o => cellB G1 o
    have fa := fun o => frozenB G1 o
    go_wp2_with fail
    refine (rreadint_any t n1 p1 0 _ (by omega) H1.out).mono ?_
    rintro e' w2 ⟨rfl, rfl⟩
    go_wp2_with fail
    refine (rreadint_any (t.drop p1) n2 p2 0 _ hl1 H2.out).mono ?_
    rintro e' w2 ⟨rfl, rfl⟩
    go_wp2_with fail
    refine (rreadtext_any (t.drop q) d p3 0 _ (by omega) H3.out).mono ?_
    rintro e' w2 ⟨rfl, rfl⟩
    go_wp2
    refine bodyPost_ret (v := .tuple #[.agg #[.int .i64 0, .int .i64 0, .string { data := #[] }], .int .i64 0, .int .i64 11]) (by simp [results, Try.results36, go_sem, World.cell?_setCell_same', World.cell?_alloc_lt, z1, ca]) rfl ?_
    exact ⟨rfl, (by repeat' (first | (with_reducible refine bset ?_ ?_) | (with_reducible exact Below.refl _ _) | (with_reducible assumption) | (with_reducible refine bdrewN ?_ _) | (with_reducible refine bdrew ?_) | (with_reducible refine balloc0 ?_) | (with_reducible refine balloc ?_ ?_) | (with_reducible apply btrans0; rotate_left; with_reducible assumption) | (with_reducible apply btrans; rotate_left; with_reducible assumption) | exact Below.refl _ _ | assumption | (apply btrans0; rotate_left; assumption) | (apply btrans; rotate_left; assumption) | (simp; done) | omega | (simp; omega)))⟩
  subst hal
  rw [if_neg (by simp)] at HL
  obtain ⟨E, hE⟩ : ∃ E, blkE ⟨n1, n2, d⟩ = E := ⟨_, rfl⟩
  rw [hE] at HL
  clear g3 hm
  by_cases hz : E = 0
  case neg =>
    have hz' : (E == 0) = false := beq_eq_false_iff_ne.2 hz
    rw [if_pos hz] at HL
    obtain ⟨rfl, rfl, rfl⟩ := trip HL
    have HE := Lib.hid hE
    clear HL hE
    go_enter Try.func36, Try.ntmps36
    go_wp2_with fail
    refine (ropen_any s t c 0 _ hs H0.out).mono ?_
    rintro e' w1 ⟨rfl, hb1⟩
    have z1 : w.heap.size < w1.heap.size := by have := hb1.size; simp at this; omega
    have G1 : w1.heap[w.heap.size]? = some (.cells #[.int .i64 0, .int .i64 0, .string (B [])] 29 (0, 0)) := (hb1.block _ (by simp)).trans heap_new
    have hB1 : Below w.heap.size w w1 := (by repeat' (first | (with_reducible refine bset ?_ ?_) | (with_reducible exact Below.refl _ _) | (with_reducible assumption) | (with_reducible refine bdrewN ?_ _) | (with_reducible refine bdrew ?_) | (with_reducible refine balloc0 ?_) | (with_reducible refine balloc ?_ ?_) | (with_reducible apply btrans0; rotate_left; with_reducible assumption) | (with_reducible apply btrans; rotate_left; with_reducible assumption) | exact Below.refl _ _ | assumption | (apply btrans0; rotate_left; assumption) | (apply btrans; rotate_left; assumption) | (simp; done) | omega | (simp; omega)))
    clear hb1
    go_wp2_with fail
    refine (rreadint_any t n1 p1 0 _ (by omega) H1.out).mono ?_
    rintro e' w2 ⟨rfl, rfl⟩
    go_wp2_with fail
    refine (rreadint_any (t.drop p1) n2 p2 0 _ hl1 H2.out).mono ?_
    rintro e' w2 ⟨rfl, rfl⟩
    go_wp2_with fail
    refine (rreadtext_any (t.drop q) d p3 0 _ (by omega) H3.out).mono ?_
    rintro e' w2 ⟨rfl, rfl⟩
    go_wp2_with fail
    refine (rbcheck_any ⟨n1, n2, d⟩ _ hdl).mono ?_
    rw [HE.out]
    rintro e' w5 ⟨rfl, hb5⟩
    have G5 := (hb5.block _ (by simp; omega)).trans ((Below.heap_alloc _ _ _ z1).trans G1)
    have ca := fun o => cellB G5 o
    have fa := fun o => frozenB G5 o
    go_wp2
    refine bodyPost_ret (v := .tuple #[.agg #[.int .i64 0, .int .i64 0, .string { data := #[] }], .int .i64 0, .int .i64 11]) (by simp [results, Try.results36, go_sem, World.cell?_setCell_same', ca]) rfl ?_
    exact ⟨rfl, (by repeat' (first | (with_reducible refine bset ?_ ?_) | (with_reducible exact Below.refl _ _) | (with_reducible assumption) | (with_reducible refine bdrewN ?_ _) | (with_reducible refine bdrew ?_) | (with_reducible refine balloc0 ?_) | (with_reducible refine balloc ?_ ?_) | (with_reducible apply btrans0; rotate_left; with_reducible assumption) | (with_reducible apply btrans; rotate_left; with_reducible assumption) | exact Below.refl _ _ | assumption | (apply btrans0; rotate_left; assumption) | (apply btrans; rotate_left; assumption) | (simp; done) | omega | (simp; omega)))⟩
  subst hz
  rw [if_neg (by simp)] at HL
  obtain ⟨rfl, rfl, rfl⟩ := trip HL
  have HE := Lib.hid hE
  clear HL hE
  go_enter Try.func36, Try.ntmps36
  go_wp2_with fail
  refine (ropen_any s t c 0 _ hs H0.out).mono ?_
  rintro e' w1 ⟨rfl, hb1⟩
  have z1 : w.heap.size < w1.heap.size := by have := hb1.size; simp at this; omega
  have G1 : w1.heap[w.heap.size]? = some (.cells #[.int .i64 0, .int .i64 0, .string (B [])] 29 (0, 0)) := (hb1.block _ (by simp)).trans heap_new
  have hB1 : Below w.heap.size w w1 := (by repeat' (first | (with_reducible refine bset ?_ ?_) | (with_reducible exact Below.refl _ _) | (with_reducible assumption) | (with_reducible refine bdrewN ?_ _) | (with_reducible refine bdrew ?_) | (with_reducible refine balloc0 ?_) | (with_reducible refine balloc ?_ ?_) | (with_reducible apply btrans0; rotate_left; with_reducible assumption) | (with_reducible apply btrans; rotate_left; with_reducible assumption) | exact Below.refl _ _ | assumption | (apply btrans0; rotate_left; assumption) | (apply btrans; rotate_left; assumption) | (simp; done) | omega | (simp; omega)))
  clear hb1
  go_wp2_with fail
  refine (rreadint_any t n1 p1 0 _ (by omega) H1.out).mono ?_
  rintro e' w2 ⟨rfl, rfl⟩
  go_wp2_with fail
  refine (rreadint_any (t.drop p1) n2 p2 0 _ hl1 H2.out).mono ?_
  rintro e' w2 ⟨rfl, rfl⟩
  go_wp2_with fail
  refine (rreadtext_any (t.drop q) d p3 0 _ (by omega) H3.out).mono ?_
  rintro e' w2 ⟨rfl, rfl⟩
  go_wp2_with fail
  refine (rbcheck_any ⟨n1, n2, d⟩ _ hdl).mono ?_
  rw [HE.out]
  rintro e' w5 ⟨rfl, hb5⟩
  have G5 := (hb5.block _ (by simp; omega)).trans ((Below.heap_alloc _ _ _ z1).trans G1)
  have X5 : w5.heap[w1.heap.size]? = some (.cells #[.int .i64 n1, .int .i64 n2, .string (B d)] 29 (0, 0)) := (hb5.block _ (by simp)).trans (by exact heap_new)
  have hne : w1.heap.size ≠ w.heap.size := by omega
  have ca := fun o => cellB G5 o
  have fa := fun o => frozenB G5 o
  have cx := fun o => cellB X5 o
  go_wp2
  refine bodyPost_ret (v := .tuple #[.agg #[.int .i64 n1, .int .i64 n2, .string (B d)], .int .i64 c, .int .i64 0]) (by simp [results, Try.results36, go_sem, World.cell?_setCell_same', ca]) rfl ?_
  exact ⟨rfl, (by repeat' (first | (with_reducible refine bset ?_ ?_) | (with_reducible exact Below.refl _ _) | (with_reducible assumption) | (with_reducible refine bdrewN ?_ _) | (with_reducible refine bdrew ?_) | (with_reducible refine balloc0 ?_) | (with_reducible refine balloc ?_ ?_) | (with_reducible apply btrans0; rotate_left; with_reducible assumption) | (with_reducible apply btrans; rotate_left; with_reducible assumption) | exact Below.refl _ _ | assumption | (apply btrans0; rotate_left; assumption) | (apply btrans; rotate_left; assumption) | (simp; done) | omega | (simp; omega)))⟩
end Go.Proofs.Ytdnbegcebloodaa
