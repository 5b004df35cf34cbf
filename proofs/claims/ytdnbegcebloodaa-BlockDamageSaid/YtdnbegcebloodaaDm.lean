/- Layer 12 (block), the program: Decode. -/
import Derived.Test.YtdnbegcebloodaaDl
import Derived.Test.YtdnbegcebloodaaEm
set_option linter.unusedVariables false
set_option linter.unusedSimpArgs false
namespace Go.Proofs.Ytdnbegcebloodaa
open Go Go.RowKit
attribute [local go_sem] B_getElem B_size B_app B_extract B_get B_toList

/-- the block in a frame -/
def bodyS (t : List UInt8) : Option Blk :=
  if (readS t).2.2 ≠ 0 then none
  else if (readS (t.drop (readS t).2.1.toNat)).2.2 ≠ 0 then none
  else if (textS (t.drop ((readS t).2.1.toNat + (readS (t.drop (readS t).2.1.toNat)).2.1.toNat))).2.2 ≠ 0 then none
  else if (readS t).2.1.toNat + (readS (t.drop (readS t).2.1.toNat)).2.1.toNat + (textS (t.drop ((readS t).2.1.toNat + (readS (t.drop (readS t).2.1.toNat)).2.1.toNat))).2.1.toNat ≠ t.length then none
  else if blkE ⟨(readS t).1, (readS (t.drop (readS t).2.1.toNat)).1, (textS (t.drop ((readS t).2.1.toNat + (readS (t.drop (readS t).2.1.toNat)).2.1.toNat))).1⟩ ≠ 0 then none
  else some ⟨(readS t).1, (readS (t.drop (readS t).2.1.toNat)).1, (textS (t.drop ((readS t).2.1.toNat + (readS (t.drop (readS t).2.1.toNat)).2.1.toNat))).1⟩
/-- what Decode answers -/
def decS (s : List UInt8) : Blk × Int × Int :=
  if (openS tailB s).2.2 ≠ 0 then (zBlk, 0, (openS tailB s).2.2)
  else match bodyS (openS tailB s).1 with
    | none => (zBlk, 0, 11)
    | some b => (b, (openS tailB s).2.1, 0)
def blkA (x : Blk) : Value := .agg #[.int .i64 x.kind, .int .i64 x.flags, .string (B x.data)]

theorem rdI_ok {t : List UInt8} {a a' : Nat} {n e e' : Int} (h : rdI t a e = (n, a', e')) (ha : a ≤ t.length) : a' ≤ t.length := by
  unfold rdI at h
  split at h
  · obtain ⟨_, rfl, _⟩ := trip h; exact ha
  · obtain ⟨⟨n1, k1, e1⟩, h1⟩ : ∃ x, readS (t.drop a) = x := ⟨_, rfl⟩
    rw [h1] at h
    obtain ⟨_, rfl, _⟩ := trip h
    have hok := readS_ok h1
    rw [List.length_drop] at hok
    simp only
    by_cases he : e1 = 0
    · have := hok.1 he; omega
    · have := hok.2.2 he; omega
theorem openS_len {s t : List UInt8} {c e : Int} (h : openS tailB s = (t, c, e)) : t.length ≤ s.length := by
  unfold openS at h
  split at h
  · obtain ⟨rfl, _, _⟩ := trip h; simp
  · split at h
    · obtain ⟨rfl, _, _⟩ := trip h; simp
    · split at h
      · obtain ⟨rfl, _, _⟩ := trip h; simp
      · split at h
        · obtain ⟨rfl, _, _⟩ := trip h; simp
        · obtain ⟨rfl, _, _⟩ := trip h
          rw [List.length_take, List.length_drop]; omega
/-- the three fields, one after the other -/
theorem body_eq {t d : List UInt8} {n1 n2 e1 e2 e3 : Int} {a1 a2 a3 : Nat} (h1 : rdI t 0 0 = (n1, a1, e1)) (h2 : rdI t a1 e1 = (n2, a2, e2)) (h3 : rdT t a2 e2 = (d, a3, e3)) :
    bodyS t = if e3 ≠ 0 then none else if a3 ≠ t.length then none else if blkE ⟨n1, n2, d⟩ ≠ 0 then none else some ⟨n1, n2, d⟩ := by
  unfold rdI at h1
  rw [if_neg (by simp), List.drop_zero, Nat.zero_add] at h1
  obtain ⟨rfl, rfl, rfl⟩ := trip h1
  unfold bodyS
  unfold rdI at h2
  by_cases he1 : (readS t).2.2 ≠ 0
  · rw [if_pos he1] at h2 ⊢
    obtain ⟨rfl, rfl, rfl⟩ := trip h2
    unfold rdT at h3
    rw [if_pos he1] at h3
    obtain ⟨rfl, rfl, rfl⟩ := trip h3
    rw [if_pos he1]
  · rw [if_neg he1] at h2 ⊢
    obtain ⟨rfl, rfl, rfl⟩ := trip h2
    unfold rdT at h3
    by_cases he2 : (readS (t.drop (readS t).2.1.toNat)).2.2 ≠ 0
    · rw [if_pos he2] at h3 ⊢
      obtain ⟨rfl, rfl, rfl⟩ := trip h3
      rw [if_pos he2]
    · rw [if_neg he2] at h3 ⊢
      obtain ⟨rfl, rfl, rfl⟩ := trip h3
      rfl

theorem rdT_len {t d : List UInt8} {a a' : Nat} {e e' : Int} (h : rdT t a e = (d, a', e')) : (d.length : Int) ≤ 65536 := by
  unfold rdT at h
  split at h
  · obtain ⟨rfl, _, _⟩ := trip h; simp
  · obtain ⟨⟨n1, k1, e1⟩, h1⟩ : ∃ x, textS (t.drop a) = x := ⟨_, rfl⟩
    rw [h1] at h
    obtain ⟨rfl, _, _⟩ := trip h
    have hok := textS_ok h1
    simp only
    by_cases he : e1 = 0
    · exact (hok.1 he).2.2
    · rw [(hok.2 he).1]; simp
theorem _root_.Go.World.heap_setCell_ne' (w : World) (p : Addr) (u : Value) {g : Nat} (h : p.block ≠ g) : (w.setCell p u).heap[g]? = w.heap[g]? := by simp [World.setCell, Array.getElem?_modify, h]
set_option maxRecDepth 100000 in
set_option maxHeartbeats 2000000 in
theorem decode_any (s : List UInt8) (x : Blk) (k e : Int) (w : World) (hs : s.length ≤ 1000000000) (hr : decS s = (x, k, e)) :
    Calls Try.prog 35 #[.string (B s)] w fun e' w' => e' = .returned (.tuple #[.agg #[.int .i64 x.kind, .int .i64 x.flags, .string (B x.data)], .int .i64 k, .int .i64 e]) ∧ Below w.heap.size w w' := by
  obtain ⟨⟨t, c, e0⟩, h0⟩ : ∃ q, openS tailB s = q := ⟨_, rfl⟩
  have HL := hr
  unfold decS at HL
  rw [h0] at HL
  simp only at HL
  have hok := openS_len h0
  have H0 := Lib.hid h0
  clear hr h0
  by_cases he : e0 = 0
  case neg =>
    rw [if_pos he] at HL
    obtain ⟨rfl, rfl, rfl⟩ := trip HL
    have he' : (e0 == 0) = false := beq_eq_false_iff_ne.2 he
    rw [show (Value.agg #[.int .i64 zBlk.kind, .int .i64 zBlk.flags, .string (B zBlk.data)]) = .agg #[.int .i64 0, .int .i64 0, .string (B [])] from rfl]
    clear he HL hok
    go_enter Try.func35, Try.ntmps35
    go_wp2_with fail
    refine (open_any s t c e0 _ hs H0.out).mono ?_
    rintro e' w1 ⟨rfl, hb1⟩
    have z1 : w.heap.size < w1.heap.size := by have := hb1.size; simp at this; omega
    have G1 : w1.heap[w.heap.size]? = some (.cells #[.int .i64 0, .int .i64 0, .string (B [])] 29 (0, 0)) := (hb1.block _ (by simp)).trans heap_new
    have ca := fun o => cellB G1 o
    have fa := fun o => frozenB G1 o
    go_wp2
    refine bodyPost_ret (v := .tuple #[.agg #[.int .i64 0, .int .i64 0, .string { data := #[] }], .int .i64 0, .int .i64 e0]) (by simp [results, Try.results35, go_sem, World.cell?_setCell_same', ca]) rfl ?_
    exact ⟨rfl, (by repeat' (first | (with_reducible refine bset ?_ ?_) | (with_reducible exact Below.refl _ _) | (with_reducible assumption) | (with_reducible refine bdrewN ?_ _) | (with_reducible refine bdrew ?_) | (with_reducible refine balloc0 ?_) | (with_reducible refine balloc ?_ ?_) | (with_reducible apply btrans0; rotate_left; with_reducible assumption) | (with_reducible apply btrans; rotate_left; with_reducible assumption) | exact Below.refl _ _ | assumption | (apply btrans0; rotate_left; assumption) | (apply btrans; rotate_left; assumption) | (simp; done) | omega | (simp; omega)))⟩
  subst he
  rw [if_neg (by simp)] at HL
  obtain ⟨⟨n1, a1, e1⟩, h1⟩ : ∃ q, rdI t 0 0 = q := ⟨_, rfl⟩
  obtain ⟨⟨n2, a2, e2⟩, h2⟩ : ∃ q, rdI t a1 e1 = q := ⟨_, rfl⟩
  obtain ⟨⟨d, a3, e3⟩, h3⟩ : ∃ q, rdT t a2 e2 = q := ⟨_, rfl⟩
  rw [body_eq h1 h2 h3] at HL
  have HLL := Lib.hid HL
  have ha1 := rdI_ok h1 (Nat.zero_le _)
  have ha2 := rdI_ok h2 ha1
  have ht : t.length ≤ 1000000000 := by omega
  have H1 := Lib.hid h1
  have H2 := Lib.hid h2
  have H3 := Lib.hid h3
  clear h1 h2 h3 HL hok
  go_enter Try.func35, Try.ntmps35
  go_wp2_with fail
  refine (open_any s t c 0 _ hs H0.out).mono ?_
  rintro e' w1 ⟨rfl, hb1⟩
  have hB1 : Below w.heap.size w w1 := (by repeat' (first | (with_reducible refine bset ?_ ?_) | (with_reducible exact Below.refl _ _) | (with_reducible assumption) | (with_reducible refine bdrewN ?_ _) | (with_reducible refine bdrew ?_) | (with_reducible refine balloc0 ?_) | (with_reducible refine balloc ?_ ?_) | (with_reducible apply btrans0; rotate_left; with_reducible assumption) | (with_reducible apply btrans; rotate_left; with_reducible assumption) | exact Below.refl _ _ | assumption | (apply btrans0; rotate_left; assumption) | (apply btrans; rotate_left; assumption) | (simp; done) | omega | (simp; omega)))
  have q1 : w.heap.size < w1.heap.size := by have := hb1.size; simp at this; omega
  have G1 : w1.heap[w.heap.size]? = some (.cells #[.int .i64 0, .int .i64 0, .string (B [])] 29 (0, 0)) := (hb1.block _ (by simp)).trans heap_new
  clear hb1
  go_wp2_with fail
  refine (number_any t 0 a1 n1 0 e1 w1.heap.size _ (by exact heap_new) (Nat.zero_le _) ht H1.out).mono ?_
  rintro e' w2 ⟨rfl, R2, K2, hb2⟩
  have q2 : w1.heap.size < w2.heap.size := by have := K2.1; simp at this; omega
  have G2 := (K2.2 w.heap.size (by simp; omega) (by omega)).trans ((Below.heap_alloc _ _ _ q1).trans G1)
  have hB2 : Below w.heap.size w w2 := by exact btrans (balloc0 hB1) hb2 (by omega)
  clear K2 hb2 G1
  go_wp2_with fail
  refine (number_any t a1 a2 n2 e1 e2 w1.heap.size _ R2 ha1 ht H2.out).mono ?_
  rintro e' w3 ⟨rfl, R3, K3, hb3⟩
  have q3 : w2.heap.size ≤ w3.heap.size := K3.1
  have G3 := (K3.2 w.heap.size (by omega) (by omega)).trans G2
  have hB3 : Below w.heap.size w w3 := by exact btrans hB2 hb3 (by omega)
  clear K3 hb3 G2 R2
  go_wp2_with fail
  refine (text_any t d a2 a3 e2 e3 w1.heap.size _ ((Below.heap_alloc _ _ _ (by omega)).trans R3) ha2 ht H3.out).mono ?_
  rintro e' w4 ⟨rfl, R4, K4, hb4⟩
  have q4 : w3.heap.size < w4.heap.size := by have := K4.1; simp at this; omega
  have G4 := (K4.2 w.heap.size (by simp; omega) (by omega)).trans ((Below.heap_alloc _ _ _ (by omega)).trans G3)
  have X4 : w4.heap[w3.heap.size]? = some (.cells #[.int .i64 n1, .int .i64 n2, .string (B [])] 29 (0, 0)) := (K4.2 w3.heap.size (by simp) (by omega)).trans (by exact heap_new)
  have hB4 : Below w.heap.size w w4 := by exact btrans (balloc0 hB3) hb4 (by omega)
  clear K4 hb4 G3 R3
  have hl := HLL.out
  clear HLL
  have hne1 : w3.heap.size ≠ w1.heap.size := by omega
  have hne2 : w3.heap.size ≠ w.heap.size := by omega
  have hne3 : w1.heap.size ≠ w.heap.size := by omega
  generalize w1.heap.size = rb at *
  generalize w3.heap.size = bb at *
  unfold Rdr at R4
  have ca := fun o => cellB R4 o
  have fa := fun o => frozenB R4 o
  have cb := fun o => cellB G4 o
  have fb := fun o => frozenB G4 o
  have cx := fun o => cellB X4 o
  have fx := fun o => frozenB X4 o
  simp only [BRdC] at ca
  by_cases he3 : e3 = 0
  case neg =>
    have he' : (e3 == 0) = false := beq_eq_false_iff_ne.2 he3
    rw [if_pos he3] at hl
    obtain ⟨rfl, rfl, rfl⟩ := trip hl
    clear hl
    go_wp2
    refine bodyPost_ret (v := .tuple #[.agg #[.int .i64 0, .int .i64 0, .string { data := #[] }], .int .i64 0, .int .i64 11]) (by simp [results, Try.results35, go_sem, World.cell?_setCell_same', cb]) rfl ?_
    exact ⟨rfl, (by repeat' (first | (with_reducible refine bset ?_ ?_) | (with_reducible exact Below.refl _ _) | (with_reducible assumption) | (with_reducible refine bdrewN ?_ _) | (with_reducible refine bdrew ?_) | (with_reducible refine balloc0 ?_) | (with_reducible refine balloc ?_ ?_) | (with_reducible apply btrans0; rotate_left; with_reducible assumption) | (with_reducible apply btrans; rotate_left; with_reducible assumption) | exact Below.refl _ _ | assumption | (apply btrans0; rotate_left; assumption) | (apply btrans; rotate_left; assumption) | (simp; done) | omega | (simp; omega)))⟩
  subst he3
  rw [if_neg (by simp)] at hl
  by_cases hal : a3 = t.length
  case neg =>
    rw [if_pos hal] at hl
    obtain ⟨rfl, rfl, rfl⟩ := trip hl
    have ha' : ((a3 : Int) == (t.length : Int)) = false := beq_eq_false_iff_ne.2 (by omega)
    have hal2 : ¬ (a3 : Int) = (t.length : Int) := by omega
    clear hal hl
    go_wp2
    refine bodyPost_ret (v := .tuple #[.agg #[.int .i64 0, .int .i64 0, .string { data := #[] }], .int .i64 0, .int .i64 11]) (by simp [results, Try.results35, go_sem, World.cell?_setCell_same', cb]) rfl ?_
    exact ⟨rfl, (by repeat' (first | (with_reducible refine bset ?_ ?_) | (with_reducible exact Below.refl _ _) | (with_reducible assumption) | (with_reducible refine bdrewN ?_ _) | (with_reducible refine bdrew ?_) | (with_reducible refine balloc0 ?_) | (with_reducible refine balloc ?_ ?_) | (with_reducible apply btrans0; rotate_left; with_reducible assumption) | (with_reducible apply btrans; rotate_left; with_reducible assumption) | exact Below.refl _ _ | assumption | (apply btrans0; rotate_left; assumption) | (apply btrans; rotate_left; assumption) | (simp; done) | omega | (simp; omega)))⟩
  rw [if_neg (by simp [hal])] at hl
  have hal3 : (a3 : Int) = (t.length : Int) := by omega
  have hdl : d.length ≤ 9223372036854775807 := by
    have := rdT_len H3.out; omega
  clear hal
  obtain ⟨E, hE⟩ : ∃ E, blkE ⟨n1, n2, d⟩ = E := ⟨_, rfl⟩
  rw [hE] at hl
  by_cases hz : E = 0
  case neg =>
    have hz' : (E == 0) = false := beq_eq_false_iff_ne.2 hz
    rw [if_pos hz] at hl
    obtain ⟨rfl, rfl, rfl⟩ := trip hl
    have HE := Lib.hid hE
    clear hl hE
    go_wp2_with fail
    refine (bcheck_any ⟨n1, n2, d⟩ _ hdl).mono ?_
    rw [HE.out]
    rintro e' w5 ⟨rfl, hb5⟩
    have G5 := (hb5.block _ (by simp; omega)).trans ((World.heap_setCell_ne' _ _ _ hne2).trans G4)
    have cb := fun o => cellB G5 o
    have fb := fun o => frozenB G5 o
    go_wp2
    refine bodyPost_ret (v := .tuple #[.agg #[.int .i64 0, .int .i64 0, .string { data := #[] }], .int .i64 0, .int .i64 11]) (by simp [results, Try.results35, go_sem, World.cell?_setCell_same', cb]) rfl ?_
    exact ⟨rfl, (by repeat' (first | (with_reducible refine bset ?_ ?_) | (with_reducible exact Below.refl _ _) | (with_reducible assumption) | (with_reducible refine bdrewN ?_ _) | (with_reducible refine bdrew ?_) | (with_reducible refine balloc0 ?_) | (with_reducible refine balloc ?_ ?_) | (with_reducible apply btrans0; rotate_left; with_reducible assumption) | (with_reducible apply btrans; rotate_left; with_reducible assumption) | exact Below.refl _ _ | assumption | (apply btrans0; rotate_left; assumption) | (apply btrans; rotate_left; assumption) | (simp; done) | omega | (simp; omega)))⟩
  subst hz
  rw [if_neg (by simp)] at hl
  obtain ⟨rfl, rfl, rfl⟩ := trip hl
  have HE := Lib.hid hE
  clear hl hE
  go_wp2_with fail
  refine (bcheck_any ⟨n1, n2, d⟩ _ hdl).mono ?_
  rw [HE.out]
  rintro e' w5 ⟨rfl, hb5⟩
  have G5 := (hb5.block _ (by simp; omega)).trans ((World.heap_setCell_ne' _ _ _ hne2).trans G4)
  have X5 := (hb5.block _ (by simp; omega)).trans (setB X4 2 (.string (B d)))
  have cb := fun o => cellB G5 o
  have fb := fun o => frozenB G5 o
  have cx := fun o => cellB X5 o
  go_wp2
  refine bodyPost_ret (v := .tuple #[.agg #[.int .i64 n1, .int .i64 n2, .string (B d)], .int .i64 c, .int .i64 0]) (by simp [results, Try.results35, go_sem, World.cell?_setCell_same', cb]) rfl ?_
  exact ⟨rfl, (by repeat' (first | (with_reducible refine bset ?_ ?_) | (with_reducible exact Below.refl _ _) | (with_reducible assumption) | (with_reducible refine bdrewN ?_ _) | (with_reducible refine bdrew ?_) | (with_reducible refine balloc0 ?_) | (with_reducible refine balloc ?_ ?_) | (with_reducible apply btrans0; rotate_left; with_reducible assumption) | (with_reducible apply btrans; rotate_left; with_reducible assumption) | exact Below.refl _ _ | assumption | (apply btrans0; rotate_left; assumption) | (apply btrans; rotate_left; assumption) | (simp; done) | omega | (simp; omega)))⟩
end Go.Proofs.Ytdnbegcebloodaa
