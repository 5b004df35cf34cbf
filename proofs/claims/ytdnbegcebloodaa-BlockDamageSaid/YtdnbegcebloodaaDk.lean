/- Layer 12 (block), the program: the reader's fields. -/
import Derived.Test.YtdnbegcebloodaaDj
import Derived.Test.YtdnbegcebloodaaKp
import Derived.Laws.EntriesVeiled
set_option linter.unusedVariables false
set_option linter.unusedSimpArgs false
namespace Go.Proofs.Ytdnbegcebloodaa
open Go Go.RowKit
attribute [local go_sem] B_getElem B_size B_app B_extract B_get B_toList

def BRdC (s : List UInt8) (a e : Int) : Array Value := #[.string (B s), .int .i64 a, .int .i64 e]
/-- a block reader in box rb -/
def Rdr (w : World) (rb : Nat) (s : List UInt8) (a e : Int) : Prop := w.heap[rb]? = some (.cells (BRdC s a e) 71 (0, 0))
/-- what a field leaves behind -/
def FldPost (s : List UInt8) (v : Value) (a e : Int) (rb : Nat) (w : World) (e' : Ending) (w' : World) : Prop :=
  e' = .returned v ∧ Rdr w' rb s a e ∧ KpX w.heap.size rb w w' ∧ Below rb w w'
/-- a store into the box of the reader -/
theorem fld_set {w w1 : World} {rb o : Nat} {u : Value} (hb : Below w.heap.size w w1) (hr : rb < w.heap.size) : KpX w.heap.size rb w (w1.setCell ⟨rb, o, none⟩ u) ∧ Below rb w (w1.setCell ⟨rb, o, none⟩ u) :=
  ⟨⟨by simp; exact hb.size, fun k hk hk2 => (show (w1.setCell ⟨rb, o, none⟩ u).heap[k]? = w1.heap[k]? by simp [World.setCell, Array.getElem?_modify, Ne.symm hk2]).trans (hb.block k hk)⟩, bset (hb.mono (Nat.le_of_lt hr)) (Nat.le_refl _)⟩
theorem fld_none {w w1 : World} {rb : Nat} (hb : Below w.heap.size w w1) (hr : rb < w.heap.size) : KpX w.heap.size rb w w1 ∧ Below rb w w1 :=
  ⟨⟨hb.size, fun k hk hk2 => hb.block k hk⟩, hb.mono (Nat.le_of_lt hr)⟩

set_option maxRecDepth 100000 in
set_option maxHeartbeats 1000000 in
theorem fieldInt_err (s : List UInt8) (a e : Int) (rb : Nat) (g : Value) (w : World) (h : Rdr w rb s a e) (he : e ≠ 0) :
    Calls Try.prog 75 #[.pointer (some ⟨rb, 0, none⟩), g] w (FldPost s (.int .i64 0) a e rb w) := by
  have he' : (e == 0) = false := beq_eq_false_iff_ne.2 he
  have hrb : rb < w.heap.size := by
    rcases Nat.lt_or_ge rb w.heap.size with q | q
    · exact q
    · unfold Rdr at h; rw [Array.getElem?_eq_none q] at h; cases h
  have H := Lib.hid h
  unfold Rdr at h
  have ca := fun o => cellB h o
  simp only [BRdC] at ca
  clear h he
  go_enter Try.func75, Try.ntmps75
  go_wp2
  go_ret
  exact ⟨rfl, H.out, fld_none (by repeat' (first | (with_reducible refine bset ?_ ?_) | (with_reducible exact Below.refl _ _) | (with_reducible assumption) | (with_reducible refine bdrewN ?_ _) | (with_reducible refine bdrew ?_) | (with_reducible refine balloc0 ?_) | (with_reducible refine balloc ?_ ?_) | (with_reducible apply btrans0; rotate_left; with_reducible assumption) | (with_reducible apply btrans; rotate_left; with_reducible assumption) | exact Below.refl _ _ | assumption | (apply btrans0; rotate_left; assumption) | (apply btrans; rotate_left; assumption) | (simp; done) | omega | (simp; omega))) hrb⟩
set_option maxRecDepth 100000 in
set_option maxHeartbeats 1000000 in
theorem fieldInt_any (s : List UInt8) (a : Nat) (n k e : Int) (rb : Nat) (w : World) (h : Rdr w rb s a 0) (ha : a ≤ s.length) (hs : s.length ≤ 1000000000) (hr : readS (s.drop a) = (n, k, e)) :
    Calls Try.prog 75 #[.pointer (some ⟨rb, 0, none⟩), .func (.func 68) #[] #[]] w (FldPost s (.int .i64 n) (a + k) e rb w) := by
  have hrb : rb < w.heap.size := by
    rcases Nat.lt_or_ge rb w.heap.size with q | q
    · exact q
    · unfold Rdr at h; rw [Array.getElem?_eq_none q] at h; cases h
  have H := Lib.hid h
  unfold Rdr at h
  have ca := fun o => cellB h o
  simp only [BRdC] at ca
  have HR := Lib.hid hr
  have hok := readS_ok hr
  have hl : (s.drop a).length ≤ 1000000000 := by rw [List.length_drop]; omega
  have ha2 : (a : Int) ≤ (s.length : Int) := by omega
  have ha0 : (0 : Int) ≤ (a : Int) := by omega
  have htk : (s.drop a).take (s.length - a) = s.drop a := List.take_of_length_le (by rw [List.length_drop]; exact Nat.le_refl _)
  have hkb : 0 ≤ k ∧ k ≤ 9 := by
    by_cases he : e = 0
    · have := hok.1 he; omega
    · have := hok.2.2 he; omega
  obtain ⟨hk0, hk9⟩ := hkb
  have hwk : IntKind.i64.wrap ((a : Int) + k) = (a : Int) + k := by rw [IntKind.wrap_i64]; omega
  have HE := Lib.hid hok.2.2
  clear h hr hok
  by_cases he : e = 0
  · have he' : (e == 0) = true := beq_iff_eq.2 he
    subst he
    go_enter Try.func75, Try.ntmps75
    go_wp2
    refine wp_region_plan (fun V => ∀ o, V.cell? ⟨rb, o, none⟩ = #[Value.string (B s), .int .i64 a, .int .i64 0][o]?) [0, 0, 0, 0, 1, 0, 0, 0, 1, 0, 3, 0, 0, 0, 0, 0, 0, 0] [0, 1, 2, 3, 4, 5, 6, 7, 8, 9, 10, 11, 12, 13, 14, 15, 16, 17] (by kernel_rfl) (by kernel_rfl) ?_ ?_
    case refine_1 => exact ca
    (iterate 10 (refine plan_held rfl (by decide) (by rfl) (fun w1 hS => by (try (have hS := hS rfl; obtain hS := hS; repeat (obtain ⟨_, hS⟩ := hS))); go_simp; rfl) ?_; simp only [Act.put, List.setIfInBounds_toArray, List.set_cons_zero, List.set_cons_succ]))
    (refine plan_late rfl rfl (by rfl) (fun K hK => ?_); go_simp)
    refine (readint_any (s.drop a) n k 0 _ hl HR.out).mono ?_
    rintro e' w2 ⟨rfl, hb2⟩
    (refine hK _ _ ?_; clear hK K; (try simp only [Act.put, List.setIfInBounds_toArray, List.set_cons_zero, List.set_cons_succ]))
    (iterate 7 (refine plan_held rfl (by decide) (by rfl) (fun w1 hS => by (try (have hS := hS rfl; obtain hS := hS; repeat (obtain ⟨_, hS⟩ := hS))); go_simp; rfl) ?_; simp only [Act.put, List.setIfInBounds_toArray, List.set_cons_zero, List.set_cons_succ]))
    refine plan_done ?_
    have hB2 : Below w.heap.size w w2 := (by repeat' (first | (with_reducible refine bset ?_ ?_) | (with_reducible exact Below.refl _ _) | (with_reducible assumption) | (with_reducible refine bdrewN ?_ _) | (with_reducible refine bdrew ?_) | (with_reducible refine balloc0 ?_) | (with_reducible refine balloc ?_ ?_) | (with_reducible apply btrans0; rotate_left; with_reducible assumption) | (with_reducible apply btrans; rotate_left; with_reducible assumption) | exact Below.refl _ _ | assumption | (apply btrans0; rotate_left; assumption) | (apply btrans; rotate_left; assumption) | (simp; done) | omega | (simp; omega)))
    have hz : w2.heap[rb]? = some (.cells (BRdC s a 0) 71 (0, 0)) := by rw [hB2.block rb hrb]; exact H.out
    have ca := fun o => cellB hz o
    have fa := fun o => frozenB hz o
    simp only [BRdC] at ca
    have HZ := Lib.hid hz
    clear hz hb2
    go_wp2
    go_ret
    exact ⟨rfl, by simpa [BRdC, Rdr] using setB HZ.out 1 (.int .i64 ((a : Int) + k)), fld_set hB2 hrb⟩
  · have he' : (e == 0) = false := beq_eq_false_iff_ne.2 he
    obtain ⟨rfl, rfl⟩ := HE.out he
    clear he
    go_enter Try.func75, Try.ntmps75
    go_wp2
    refine wp_region_plan (fun V => ∀ o, V.cell? ⟨rb, o, none⟩ = #[Value.string (B s), .int .i64 a, .int .i64 0][o]?) [0, 0, 0, 0, 1, 0, 0, 0, 1, 0, 3, 0, 0, 0, 0, 0, 0, 0] [0, 1, 2, 3, 4, 5, 6, 7, 8, 9, 10, 11, 12, 13, 14, 15, 16, 17] (by kernel_rfl) (by kernel_rfl) ?_ ?_
    case refine_1 => exact ca
    (iterate 10 (refine plan_held rfl (by decide) (by rfl) (fun w1 hS => by (try (have hS := hS rfl; obtain hS := hS; repeat (obtain ⟨_, hS⟩ := hS))); go_simp; rfl) ?_; simp only [Act.put, List.setIfInBounds_toArray, List.set_cons_zero, List.set_cons_succ]))
    (refine plan_late rfl rfl (by rfl) (fun K hK => ?_); go_simp)
    refine (readint_any (s.drop a) 0 0 e _ hl HR.out).mono ?_
    rintro e' w2 ⟨rfl, hb2⟩
    (refine hK _ _ ?_; clear hK K; (try simp only [Act.put, List.setIfInBounds_toArray, List.set_cons_zero, List.set_cons_succ]))
    (iterate 7 (refine plan_held rfl (by decide) (by rfl) (fun w1 hS => by (try (have hS := hS rfl; obtain hS := hS; repeat (obtain ⟨_, hS⟩ := hS))); go_simp; rfl) ?_; simp only [Act.put, List.setIfInBounds_toArray, List.set_cons_zero, List.set_cons_succ]))
    refine plan_done ?_
    have hB2 : Below w.heap.size w w2 := (by repeat' (first | (with_reducible refine bset ?_ ?_) | (with_reducible exact Below.refl _ _) | (with_reducible assumption) | (with_reducible refine bdrewN ?_ _) | (with_reducible refine bdrew ?_) | (with_reducible refine balloc0 ?_) | (with_reducible refine balloc ?_ ?_) | (with_reducible apply btrans0; rotate_left; with_reducible assumption) | (with_reducible apply btrans; rotate_left; with_reducible assumption) | exact Below.refl _ _ | assumption | (apply btrans0; rotate_left; assumption) | (apply btrans; rotate_left; assumption) | (simp; done) | omega | (simp; omega)))
    have hz : w2.heap[rb]? = some (.cells (BRdC s a 0) 71 (0, 0)) := by rw [hB2.block rb hrb]; exact H.out
    have ca := fun o => cellB hz o
    have fa := fun o => frozenB hz o
    simp only [BRdC] at ca
    have HZ := Lib.hid hz
    clear hz hb2
    go_wp2
    go_ret
    exact ⟨rfl, by simpa [BRdC, Rdr] using setB HZ.out 2 (.int .i64 e), fld_set hB2 hrb⟩

/-- what a field of an integer reads: the integer, the place, the error -/
def rdI (s : List UInt8) (a : Nat) (e : Int) : Int × Nat × Int := if e ≠ 0 then (0, a, e) else ((readS (s.drop a)).1, a + (readS (s.drop a)).2.1.toNat, (readS (s.drop a)).2.2)
set_option maxHeartbeats 1000000 in
theorem number_any (s : List UInt8) (a a' : Nat) (n e e' : Int) (rb : Nat) (w : World) (h : Rdr w rb s a e) (ha : a ≤ s.length) (hs : s.length ≤ 1000000000) (hr : rdI s a e = (n, a', e')) :
    Calls Try.prog 63 #[.pointer (some ⟨rb, 0, none⟩)] w (FldPost s (.int .i64 n) a' e' rb w) := by
  have H := Lib.hid h
  have HL := Lib.hid hr
  clear h hr
  by_cases he : e = 0
  · subst he
    obtain ⟨⟨n1, k1, e1⟩, h1⟩ : ∃ x, readS (s.drop a) = x := ⟨_, rfl⟩
    have hok := readS_ok h1
    have hq := HL.out
    unfold rdI at hq
    rw [if_neg (by simp), h1] at hq
    obtain ⟨rfl, q2, rfl⟩ := trip hq
    have hka : (a : Int) + k1 = (a' : Int) := by
      simp only at q2
      by_cases he : e1 = 0
      · have := hok.1 he; omega
      · have := hok.2.2 he; omega
    have H1 := Lib.hid h1
    have HK := Lib.hid hka
    clear q2 hok h1 hka hq
    go_enter Try.func63, Try.ntmps63
    go_wp2_with fail
    refine (fieldInt_any s a n1 k1 e1 rb _ H.out ha hs H1.out).mono ?_
    rw [HK.out]
    rintro e' w2 ⟨rfl, hb2⟩
    go_wp2
    go_ret
    exact ⟨rfl, hb2⟩
  · have hq := HL.out
    unfold rdI at hq
    rw [if_pos he] at hq
    obtain ⟨rfl, rfl, rfl⟩ := trip hq
    have HE := Lib.hid he
    clear he hq
    go_enter Try.func63, Try.ntmps63
    go_wp2_with fail
    refine (fieldInt_err s a e rb _ _ H.out HE.out).mono ?_
    rintro e' w2 ⟨rfl, hb2⟩
    go_wp2
    go_ret
    exact ⟨rfl, hb2⟩
end Go.Proofs.Ytdnbegcebloodaa
