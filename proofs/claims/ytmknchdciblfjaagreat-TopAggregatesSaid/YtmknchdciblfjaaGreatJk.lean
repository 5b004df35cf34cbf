/- Joined by port.py: XDk XDl XDm XDn -/
import Derived.Test.YtmknchdciblfjaaGreatJiz
import Derived.Test.YtmknchdciblfjaaGreatJb
import Derived.Laws.EntriesVeiled
import Derived.Test.YtmknchdciblfjaaGreatJh
import Derived.Test.YtmknchdciblfjaaGreatJa
import Derived.Test.YtmknchdciblfjaaGreatJd
import Derived.Test.YtmknchdciblfjaaGreatJe
import Derived.Test.YtmknchdciblfjaaGreatJf
import Derived.Test.YtmknchdciblfjaaGreatJg
set_option linter.unusedVariables false
set_option linter.unusedSimpArgs false
/-! XDk -/
namespace Go.Proofs.YtmknchdciblfjaaGreat
open Go Go.RowKit
attribute [local go_sem] B_getElem B_size B_app B_extract B_get B_toList
def BRdC (s : List UInt8) (a e : Int) : Array Value := #[.string (B s), .int .i64 a, .int .i64 e]
/-- a block reader in box rb -/
def Rdr (w : World) (rb : Nat) (s : List UInt8) (a e : Int) : Prop := w.heap[rb]? = some (.cells (BRdC s a e) 389 (0, 0))
/-- what a field leaves behind -/
def FldPost (s : List UInt8) (v : Value) (a e : Int) (rb : Nat) (w : World) (e' : Ending) (w' : World) : Prop :=
  e' = .returned v ∧ Rdr w' rb s a e ∧ KpX w.heap.size rb w w' ∧ Below rb w w'
/-- a store into the box of the reader -/
theorem fld_set {w w1 : World} {rb o : Nat} {u : Value} (hb : Below w.heap.size w w1) (hr : rb < w.heap.size) : KpX w.heap.size rb w (w1.setCell ⟨rb, o, none⟩ u) ∧ Below rb w (w1.setCell ⟨rb, o, none⟩ u) :=
  ⟨⟨by simp; exact hb.size, fun k hk hk2 => (show (w1.setCell ⟨rb, o, none⟩ u).heap[k]? = w1.heap[k]? by simp [World.setCell, Array.getElem?_modify, Ne.symm hk2]).trans (hb.block k hk)⟩, bset (hb.mono (Nat.le_of_lt hr)) (Nat.le_refl _)⟩
theorem fld_none {w w1 : World} {rb : Nat} (hb : Below w.heap.size w w1) (hr : rb < w.heap.size) : KpX w.heap.size rb w w1 ∧ Below rb w w1 :=
  ⟨⟨hb.size, fun k hk hk2 => hb.block k hk⟩, hb.mono (Nat.le_of_lt hr)⟩
set_option maxRecDepth 100000 in
set_option maxHeartbeats 1000000 in
theorem fieldInt_err (s : List UInt8) (a e : Int) (rb : Nat) (g : Value) (w : World) (h : Rdr w rb s a e) (he : e ≠ 0) :
    Calls Tryz.prog 289 #[.pointer (some ⟨rb, 0, none⟩), g] w (FldPost s (.int .i64 0) a e rb w) := by
  have he' : (e == 0) = false := beq_eq_false_iff_ne.2 he
  have hrb : rb < w.heap.size := by
    rcases Nat.lt_or_ge rb w.heap.size with q | q
    · exact q
    · unfold Rdr at h; rw [Array.getElem?_eq_none q] at h; cases h
  have H := Lib.hid h
  unfold Rdr at h
  have ca := fun o => cellB h o
  simp only [BRdC] at ca
  clear h he
  go_enter Tryz.func289, Tryz.ntmps289
  go_wp2
  go_ret
  exact ⟨rfl, H.out, fld_none belowA hrb⟩
set_option maxRecDepth 100000 in
set_option maxHeartbeats 1000000 in
theorem fieldInt_any (s : List UInt8) (a : Nat) (n k e : Int) (rb : Nat) (w : World) (h : Rdr w rb s a 0) (ha : a ≤ s.length) (hs : s.length ≤ 1000000000) (hr : readS (s.drop a) = (n, k, e)) :
    Calls Tryz.prog 289 #[.pointer (some ⟨rb, 0, none⟩), .func (.func 89) #[] #[]] w (FldPost s (.int .i64 n) (a + k) e rb w) := by
  have hrb : rb < w.heap.size := by
    rcases Nat.lt_or_ge rb w.heap.size with q | q
    · exact q
    · unfold Rdr at h; rw [Array.getElem?_eq_none q] at h; cases h
  have H := Lib.hid h
  unfold Rdr at h
  have ca := fun o => cellB h o
  simp only [BRdC] at ca
  have HR := Lib.hid hr
  have hok := readS_ok hr
  have hl : (s.drop a).length ≤ 1000000000 := by rw [List.length_drop]; omega
  have ha2 : (a : Int) ≤ (s.length : Int) := by omega
  have ha0 : (0 : Int) ≤ (a : Int) := by omega
  have htk : (s.drop a).take (s.length - a) = s.drop a := List.take_of_length_le (by rw [List.length_drop]; exact Nat.le_refl _)
  have hkb : 0 ≤ k ∧ k ≤ 9 := by
    by_cases he : e = 0
    · have := hok.1 he; omega
    · have := hok.2.2 he; omega
  obtain ⟨hk0, hk9⟩ := hkb
  have hwk : IntKind.i64.wrap ((a : Int) + k) = (a : Int) + k := by rw [IntKind.wrap_i64]; omega
  have HE := Lib.hid hok.2.2
  clear h hr hok
  by_cases he : e = 0
  · have he' : (e == 0) = true := beq_iff_eq.2 he
    subst he
    go_enter Tryz.func289, Tryz.ntmps289
    go_wp2
    refine wp_region_plan (fun V => ∀ o, V.cell? ⟨rb, o, none⟩ = #[Value.string (B s), .int .i64 a, .int .i64 0][o]?) [0, 0, 0, 0, 1, 0, 0, 0, 1, 0, 3, 0, 0, 0, 0, 0, 0, 0] [0, 1, 2, 3, 4, 5, 6, 7, 8, 9, 10, 11, 12, 13, 14, 15, 16, 17] (by kernel_rfl) (by kernel_rfl) ?_ ?_
    case refine_1 => exact ca
    (iterate 10 (refine plan_held rfl (by decide) (by rfl) (fun w1 hS => by (try (have hS := hS rfl; obtain hS := hS; repeat (obtain ⟨_, hS⟩ := hS))); go_simp; rfl) ?_; simp only [Act.put, List.setIfInBounds_toArray, List.set_cons_zero, List.set_cons_succ]))
    (refine plan_late rfl rfl (by rfl) (fun K hK => ?_); go_simp)
    refine (readint_any (s.drop a) n k 0 _ hl HR.out).mono ?_
    rintro e' w2 ⟨rfl, hb2⟩
    (refine hK _ _ ?_; clear hK K; (try simp only [Act.put, List.setIfInBounds_toArray, List.set_cons_zero, List.set_cons_succ]))
    (iterate 7 (refine plan_held rfl (by decide) (by rfl) (fun w1 hS => by (try (have hS := hS rfl; obtain hS := hS; repeat (obtain ⟨_, hS⟩ := hS))); go_simp; rfl) ?_; simp only [Act.put, List.setIfInBounds_toArray, List.set_cons_zero, List.set_cons_succ]))
    refine plan_done ?_
    have hB2 : Below w.heap.size w w2 := belowA
    have hz : w2.heap[rb]? = some (.cells (BRdC s a 0) 389 (0, 0)) := by rw [hB2.block rb hrb]; exact H.out
    have ca := fun o => cellB hz o
    have fa := fun o => frozenB hz o
    simp only [BRdC] at ca
    have HZ := Lib.hid hz
    clear hz hb2
    go_wp2
    go_ret
    exact ⟨rfl, by simpa [BRdC, Rdr] using setB HZ.out 1 (.int .i64 ((a : Int) + k)), fld_set hB2 hrb⟩
  · have he' : (e == 0) = false := beq_eq_false_iff_ne.2 he
    obtain ⟨rfl, rfl⟩ := HE.out he
    clear he
    go_enter Tryz.func289, Tryz.ntmps289
    go_wp2
    refine wp_region_plan (fun V => ∀ o, V.cell? ⟨rb, o, none⟩ = #[Value.string (B s), .int .i64 a, .int .i64 0][o]?) [0, 0, 0, 0, 1, 0, 0, 0, 1, 0, 3, 0, 0, 0, 0, 0, 0, 0] [0, 1, 2, 3, 4, 5, 6, 7, 8, 9, 10, 11, 12, 13, 14, 15, 16, 17] (by kernel_rfl) (by kernel_rfl) ?_ ?_
    case refine_1 => exact ca
    (iterate 10 (refine plan_held rfl (by decide) (by rfl) (fun w1 hS => by (try (have hS := hS rfl; obtain hS := hS; repeat (obtain ⟨_, hS⟩ := hS))); go_simp; rfl) ?_; simp only [Act.put, List.setIfInBounds_toArray, List.set_cons_zero, List.set_cons_succ]))
    (refine plan_late rfl rfl (by rfl) (fun K hK => ?_); go_simp)
    refine (readint_any (s.drop a) 0 0 e _ hl HR.out).mono ?_
    rintro e' w2 ⟨rfl, hb2⟩
    (refine hK _ _ ?_; clear hK K; (try simp only [Act.put, List.setIfInBounds_toArray, List.set_cons_zero, List.set_cons_succ]))
    (iterate 7 (refine plan_held rfl (by decide) (by rfl) (fun w1 hS => by (try (have hS := hS rfl; obtain hS := hS; repeat (obtain ⟨_, hS⟩ := hS))); go_simp; rfl) ?_; simp only [Act.put, List.setIfInBounds_toArray, List.set_cons_zero, List.set_cons_succ]))
    refine plan_done ?_
    have hB2 : Below w.heap.size w w2 := belowA
    have hz : w2.heap[rb]? = some (.cells (BRdC s a 0) 389 (0, 0)) := by rw [hB2.block rb hrb]; exact H.out
    have ca := fun o => cellB hz o
    have fa := fun o => frozenB hz o
    simp only [BRdC] at ca
    have HZ := Lib.hid hz
    clear hz hb2
    go_wp2
    go_ret
    exact ⟨rfl, by simpa [BRdC, Rdr] using setB HZ.out 2 (.int .i64 e), fld_set hB2 hrb⟩
/-- what a field of an integer reads: the integer, the place, the error -/
def rdI (s : List UInt8) (a : Nat) (e : Int) : Int × Nat × Int := if e ≠ 0 then (0, a, e) else ((readS (s.drop a)).1, a + (readS (s.drop a)).2.1.toNat, (readS (s.drop a)).2.2)
set_option maxHeartbeats 1000000 in
theorem number_any (s : List UInt8) (a a' : Nat) (n e e' : Int) (rb : Nat) (w : World) (h : Rdr w rb s a e) (ha : a ≤ s.length) (hs : s.length ≤ 1000000000) (hr : rdI s a e = (n, a', e')) :
    Calls Tryz.prog 282 #[.pointer (some ⟨rb, 0, none⟩)] w (FldPost s (.int .i64 n) a' e' rb w) := by
  have H := Lib.hid h
  have HL := Lib.hid hr
  clear h hr
  by_cases he : e = 0
  · subst he
    obtain ⟨⟨n1, k1, e1⟩, h1⟩ : ∃ x, readS (s.drop a) = x := ⟨_, rfl⟩
    have hok := readS_ok h1
    have hq := HL.out
    unfold rdI at hq
    rw [if_neg (by simp), h1] at hq
    obtain ⟨rfl, q2, rfl⟩ := trip hq
    have hka : (a : Int) + k1 = (a' : Int) := by
      simp only at q2
      by_cases he : e1 = 0
      · have := hok.1 he; omega
      · have := hok.2.2 he; omega
    have H1 := Lib.hid h1
    have HK := Lib.hid hka
    clear q2 hok h1 hka hq
    go_enter Tryz.func282, Tryz.ntmps282
    go_wp2_with fail
    refine (fieldInt_any s a n1 k1 e1 rb _ H.out ha hs H1.out).mono ?_
    rw [HK.out]
    rintro e' w2 ⟨rfl, hb2⟩
    go_wp2
    go_ret
    exact ⟨rfl, hb2⟩
  · have hq := HL.out
    unfold rdI at hq
    rw [if_pos he] at hq
    obtain ⟨rfl, rfl, rfl⟩ := trip hq
    have HE := Lib.hid he
    clear he hq
    go_enter Tryz.func282, Tryz.ntmps282
    go_wp2_with fail
    refine (fieldInt_err s a e rb _ _ H.out HE.out).mono ?_
    rintro e' w2 ⟨rfl, hb2⟩
    go_wp2
    go_ret
    exact ⟨rfl, hb2⟩
end Go.Proofs.YtmknchdciblfjaaGreat
/-! XDl -/
namespace Go.Proofs.YtmknchdciblfjaaGreat
open Go Go.RowKit
attribute [local go_sem] B_getElem B_size B_app B_extract B_get B_toList
theorem textS_ok {s t : List UInt8} {k e : Int} (h : textS s = (t, k, e)) : (e = 0 → 1 ≤ k ∧ k ≤ s.length ∧ (t.length : Int) ≤ 65536) ∧ (e ≠ 0 → t = [] ∧ k = 0) := by
  obtain ⟨⟨n, c, f⟩, hl⟩ : ∃ x, lenS s = x := ⟨_, rfl⟩
  have hok := lenS_ok hl
  unfold textS at h
  rw [hl] at h
  simp only at h
  by_cases hf : f = 0
  · rw [if_neg (by simp [hf])] at h
    have := hok.1 hf
    split at h
    · obtain ⟨rfl, rfl, rfl⟩ := trip h
      exact ⟨fun h => absurd h (by decide), fun _ => ⟨rfl, rfl⟩⟩
    · obtain ⟨rfl, rfl, rfl⟩ := trip h
      refine ⟨fun _ => ⟨by omega, by omega, ?_⟩, fun h => absurd rfl h⟩
      rw [List.length_take]; omega
  · rw [if_pos hf] at h
    obtain ⟨rfl, rfl, rfl⟩ := trip h
    exact ⟨fun h => absurd h hf, fun _ => ⟨rfl, rfl⟩⟩
set_option maxRecDepth 100000 in
set_option maxHeartbeats 1000000 in
theorem fieldText_err (s : List UInt8) (a e : Int) (rb : Nat) (g : Value) (w : World) (h : Rdr w rb s a e) (he : e ≠ 0) :
    Calls Tryz.prog 290 #[.pointer (some ⟨rb, 0, none⟩), g] w (FldPost s (.string (B [])) a e rb w) := by
  have he' : (e == 0) = false := beq_eq_false_iff_ne.2 he
  have hrb : rb < w.heap.size := by
    rcases Nat.lt_or_ge rb w.heap.size with q | q
    · exact q
    · unfold Rdr at h; rw [Array.getElem?_eq_none q] at h; cases h
  have H := Lib.hid h
  unfold Rdr at h
  have ca := fun o => cellB h o
  simp only [BRdC] at ca
  clear h he
  go_enter Tryz.func290, Tryz.ntmps290
  go_wp2
  go_ret
  exact ⟨rfl, H.out, fld_none belowA hrb⟩
set_option maxRecDepth 100000 in
set_option maxHeartbeats 1000000 in
theorem fieldText_any (s n : List UInt8) (a : Nat) (k e : Int) (rb : Nat) (w : World) (h : Rdr w rb s a 0) (ha : a ≤ s.length) (hs : s.length ≤ 1000000000) (hr : textS (s.drop a) = (n, k, e)) :
    Calls Tryz.prog 290 #[.pointer (some ⟨rb, 0, none⟩), .func (.func 156) #[] #[]] w (FldPost s (.string (B n)) (a + k) e rb w) := by
  have hrb : rb < w.heap.size := by
    rcases Nat.lt_or_ge rb w.heap.size with q | q
    · exact q
    · unfold Rdr at h; rw [Array.getElem?_eq_none q] at h; cases h
  have H := Lib.hid h
  unfold Rdr at h
  have ca := fun o => cellB h o
  simp only [BRdC] at ca
  have HR := Lib.hid hr
  have hok := textS_ok hr
  have hl : (s.drop a).length ≤ 1000000000 := by rw [List.length_drop]; omega
  have ha2 : (a : Int) ≤ (s.length : Int) := by omega
  have ha0 : (0 : Int) ≤ (a : Int) := by omega
  have htk : (s.drop a).take (s.length - a) = s.drop a := List.take_of_length_le (by rw [List.length_drop]; exact Nat.le_refl _)
  have hkb : 0 ≤ k ∧ k ≤ 1000000000 := by
    by_cases he : e = 0
    · have := hok.1 he; omega
    · have := (hok.2 he).2; omega
  obtain ⟨hk0, hk9⟩ := hkb
  have hwk : IntKind.i64.wrap ((a : Int) + k) = (a : Int) + k := by rw [IntKind.wrap_i64]; omega
  have HE := Lib.hid hok.2
  clear h hr hok
  by_cases he : e = 0
  · have he' : (e == 0) = true := beq_iff_eq.2 he
    subst he
    go_enter Tryz.func290, Tryz.ntmps290
    go_wp2
    refine wp_region_plan (fun V => ∀ o, V.cell? ⟨rb, o, none⟩ = #[Value.string (B s), .int .i64 a, .int .i64 0][o]?) [0, 0, 0, 0, 1, 0, 0, 0, 1, 0, 3, 0, 0, 0, 0, 0, 0, 0] [0, 1, 2, 3, 4, 5, 6, 7, 8, 9, 10, 11, 12, 13, 14, 15, 16, 17] (by kernel_rfl) (by kernel_rfl) ?_ ?_
    case refine_1 => exact ca
    (iterate 10 (refine plan_held rfl (by decide) (by rfl) (fun w1 hS => by (try (have hS := hS rfl; obtain hS := hS; repeat (obtain ⟨_, hS⟩ := hS))); go_simp; rfl) ?_; simp only [Act.put, List.setIfInBounds_toArray, List.set_cons_zero, List.set_cons_succ]))
    (refine plan_late rfl rfl (by rfl) (fun K hK => ?_); go_simp)
    refine (readtext_any (s.drop a) n k 0 _ hl HR.out).mono ?_
    rintro e' w2 ⟨rfl, hb2⟩
    (refine hK _ _ ?_; clear hK K; (try simp only [Act.put, List.setIfInBounds_toArray, List.set_cons_zero, List.set_cons_succ]))
    (iterate 7 (refine plan_held rfl (by decide) (by rfl) (fun w1 hS => by (try (have hS := hS rfl; obtain hS := hS; repeat (obtain ⟨_, hS⟩ := hS))); go_simp; rfl) ?_; simp only [Act.put, List.setIfInBounds_toArray, List.set_cons_zero, List.set_cons_succ]))
    refine plan_done ?_
    have hB2 : Below w.heap.size w w2 := belowA
    have hz : w2.heap[rb]? = some (.cells (BRdC s a 0) 389 (0, 0)) := by rw [hB2.block rb hrb]; exact H.out
    have ca := fun o => cellB hz o
    have fa := fun o => frozenB hz o
    simp only [BRdC] at ca
    have HZ := Lib.hid hz
    clear hz hb2
    go_wp2
    go_ret
    exact ⟨rfl, by simpa [BRdC, Rdr] using setB HZ.out 1 (.int .i64 ((a : Int) + k)), fld_set hB2 hrb⟩
  · have he' : (e == 0) = false := beq_eq_false_iff_ne.2 he
    obtain ⟨rfl, rfl⟩ := HE.out he
    clear he
    go_enter Tryz.func290, Tryz.ntmps290
    go_wp2
    refine wp_region_plan (fun V => ∀ o, V.cell? ⟨rb, o, none⟩ = #[Value.string (B s), .int .i64 a, .int .i64 0][o]?) [0, 0, 0, 0, 1, 0, 0, 0, 1, 0, 3, 0, 0, 0, 0, 0, 0, 0] [0, 1, 2, 3, 4, 5, 6, 7, 8, 9, 10, 11, 12, 13, 14, 15, 16, 17] (by kernel_rfl) (by kernel_rfl) ?_ ?_
    case refine_1 => exact ca
    (iterate 10 (refine plan_held rfl (by decide) (by rfl) (fun w1 hS => by (try (have hS := hS rfl; obtain hS := hS; repeat (obtain ⟨_, hS⟩ := hS))); go_simp; rfl) ?_; simp only [Act.put, List.setIfInBounds_toArray, List.set_cons_zero, List.set_cons_succ]))
    (refine plan_late rfl rfl (by rfl) (fun K hK => ?_); go_simp)
    refine (readtext_any (s.drop a) [] 0 e _ hl HR.out).mono ?_
    rintro e' w2 ⟨rfl, hb2⟩
    (refine hK _ _ ?_; clear hK K; (try simp only [Act.put, List.setIfInBounds_toArray, List.set_cons_zero, List.set_cons_succ]))
    (iterate 7 (refine plan_held rfl (by decide) (by rfl) (fun w1 hS => by (try (have hS := hS rfl; obtain hS := hS; repeat (obtain ⟨_, hS⟩ := hS))); go_simp; rfl) ?_; simp only [Act.put, List.setIfInBounds_toArray, List.set_cons_zero, List.set_cons_succ]))
    refine plan_done ?_
    have hB2 : Below w.heap.size w w2 := belowA
    have hz : w2.heap[rb]? = some (.cells (BRdC s a 0) 389 (0, 0)) := by rw [hB2.block rb hrb]; exact H.out
    have ca := fun o => cellB hz o
    have fa := fun o => frozenB hz o
    simp only [BRdC] at ca
    have HZ := Lib.hid hz
    clear hz hb2
    go_wp2
    go_ret
    exact ⟨rfl, by simpa [BRdC, Rdr] using setB HZ.out 2 (.int .i64 e), fld_set hB2 hrb⟩
/-- what a field of an string reads: the string, the place, the error -/
def rdT (s : List UInt8) (a : Nat) (e : Int) : List UInt8 × Nat × Int := if e ≠ 0 then ([], a, e) else ((textS (s.drop a)).1, a + (textS (s.drop a)).2.1.toNat, (textS (s.drop a)).2.2)
set_option maxHeartbeats 1000000 in
theorem text_any (s n : List UInt8) (a a' : Nat) (e e' : Int) (rb : Nat) (w : World) (h : Rdr w rb s a e) (ha : a ≤ s.length) (hs : s.length ≤ 1000000000) (hr : rdT s a e = (n, a', e')) :
    Calls Tryz.prog 283 #[.pointer (some ⟨rb, 0, none⟩)] w (FldPost s (.string (B n)) a' e' rb w) := by
  have H := Lib.hid h
  have HL := Lib.hid hr
  clear h hr
  by_cases he : e = 0
  · subst he
    obtain ⟨⟨n1, k1, e1⟩, h1⟩ : ∃ x, textS (s.drop a) = x := ⟨_, rfl⟩
    have hok := textS_ok h1
    have hq := HL.out
    unfold rdT at hq
    rw [if_neg (by simp), h1] at hq
    obtain ⟨rfl, q2, rfl⟩ := trip hq
    have hka : (a : Int) + k1 = (a' : Int) := by
      simp only at q2
      by_cases he : e1 = 0
      · have := hok.1 he; omega
      · have := (hok.2 he).2; omega
    have H1 := Lib.hid h1
    have HK := Lib.hid hka
    clear q2 hok h1 hka hq
    go_enter Tryz.func283, Tryz.ntmps283
    go_wp2_with fail
    refine (fieldText_any s n1 a k1 e1 rb _ H.out ha hs H1.out).mono ?_
    rw [HK.out]
    rintro e' w2 ⟨rfl, hb2⟩
    go_wp2
    go_ret
    exact ⟨rfl, hb2⟩
  · have hq := HL.out
    unfold rdT at hq
    rw [if_pos he] at hq
    obtain ⟨rfl, rfl, rfl⟩ := trip hq
    have HE := Lib.hid he
    clear he hq
    go_enter Tryz.func283, Tryz.ntmps283
    go_wp2_with fail
    refine (fieldText_err s a e rb _ _ H.out HE.out).mono ?_
    rintro e' w2 ⟨rfl, hb2⟩
    go_wp2
    go_ret
    exact ⟨rfl, hb2⟩
end Go.Proofs.YtmknchdciblfjaaGreat
/-! XDm -/
namespace Go.Proofs.YtmknchdciblfjaaGreat
open Go Go.RowKit
attribute [local go_sem] B_getElem B_size B_app B_extract B_get B_toList
/-- the block in a frame -/
def bodyS (t : List UInt8) : Option Blk :=
  if (readS t).2.2 ≠ 0 then none
  else if (readS (t.drop (readS t).2.1.toNat)).2.2 ≠ 0 then none
  else if (textS (t.drop ((readS t).2.1.toNat + (readS (t.drop (readS t).2.1.toNat)).2.1.toNat))).2.2 ≠ 0 then none
  else if (readS t).2.1.toNat + (readS (t.drop (readS t).2.1.toNat)).2.1.toNat + (textS (t.drop ((readS t).2.1.toNat + (readS (t.drop (readS t).2.1.toNat)).2.1.toNat))).2.1.toNat ≠ t.length then none
  else if blkE ⟨(readS t).1, (readS (t.drop (readS t).2.1.toNat)).1, (textS (t.drop ((readS t).2.1.toNat + (readS (t.drop (readS t).2.1.toNat)).2.1.toNat))).1⟩ ≠ 0 then none
  else some ⟨(readS t).1, (readS (t.drop (readS t).2.1.toNat)).1, (textS (t.drop ((readS t).2.1.toNat + (readS (t.drop (readS t).2.1.toNat)).2.1.toNat))).1⟩
/-- what Decode answers -/
def decS (s : List UInt8) : Blk × Int × Int :=
  if (openS tailB s).2.2 ≠ 0 then (zBlk, 0, (openS tailB s).2.2)
  else match bodyS (openS tailB s).1 with
    | none => (zBlk, 0, 11)
    | some b => (b, (openS tailB s).2.1, 0)
theorem rdI_ok {t : List UInt8} {a a' : Nat} {n e e' : Int} (h : rdI t a e = (n, a', e')) (ha : a ≤ t.length) : a' ≤ t.length := by
  unfold rdI at h
  split at h
  · obtain ⟨_, rfl, _⟩ := trip h; exact ha
  · obtain ⟨⟨n1, k1, e1⟩, h1⟩ : ∃ x, readS (t.drop a) = x := ⟨_, rfl⟩
    rw [h1] at h
    obtain ⟨_, rfl, _⟩ := trip h
    have hok := readS_ok h1
    rw [List.length_drop] at hok
    simp only
    by_cases he : e1 = 0
    · have := hok.1 he; omega
    · have := hok.2.2 he; omega
theorem openS_len {s t : List UInt8} {c e : Int} (h : openS tailB s = (t, c, e)) : t.length ≤ s.length := by
  unfold openS at h
  split at h
  · obtain ⟨rfl, _, _⟩ := trip h; simp
  · split at h
    · obtain ⟨rfl, _, _⟩ := trip h; simp
    · split at h
      · obtain ⟨rfl, _, _⟩ := trip h; simp
      · split at h
        · obtain ⟨rfl, _, _⟩ := trip h; simp
        · obtain ⟨rfl, _, _⟩ := trip h
          rw [List.length_take, List.length_drop]; omega
/-- the three fields, one after the other -/
theorem body_eq {t d : List UInt8} {n1 n2 e1 e2 e3 : Int} {a1 a2 a3 : Nat} (h1 : rdI t 0 0 = (n1, a1, e1)) (h2 : rdI t a1 e1 = (n2, a2, e2)) (h3 : rdT t a2 e2 = (d, a3, e3)) :
    bodyS t = if e3 ≠ 0 then none else if a3 ≠ t.length then none else if blkE ⟨n1, n2, d⟩ ≠ 0 then none else some ⟨n1, n2, d⟩ := by
  unfold rdI at h1
  rw [if_neg (by simp), List.drop_zero, Nat.zero_add] at h1
  obtain ⟨rfl, rfl, rfl⟩ := trip h1
  unfold bodyS
  unfold rdI at h2
  by_cases he1 : (readS t).2.2 ≠ 0
  · rw [if_pos he1] at h2 ⊢
    obtain ⟨rfl, rfl, rfl⟩ := trip h2
    unfold rdT at h3
    rw [if_pos he1] at h3
    obtain ⟨rfl, rfl, rfl⟩ := trip h3
    rw [if_pos he1]
  · rw [if_neg he1] at h2 ⊢
    obtain ⟨rfl, rfl, rfl⟩ := trip h2
    unfold rdT at h3
    by_cases he2 : (readS (t.drop (readS t).2.1.toNat)).2.2 ≠ 0
    · rw [if_pos he2] at h3 ⊢
      obtain ⟨rfl, rfl, rfl⟩ := trip h3
      rw [if_pos he2]
    · rw [if_neg he2] at h3 ⊢
      obtain ⟨rfl, rfl, rfl⟩ := trip h3
      rfl
theorem rdT_len {t d : List UInt8} {a a' : Nat} {e e' : Int} (h : rdT t a e = (d, a', e')) : (d.length : Int) ≤ 65536 := by
  unfold rdT at h
  split at h
  · obtain ⟨rfl, _, _⟩ := trip h; simp
  · obtain ⟨⟨n1, k1, e1⟩, h1⟩ : ∃ x, textS (t.drop a) = x := ⟨_, rfl⟩
    rw [h1] at h
    obtain ⟨rfl, _, _⟩ := trip h
    have hok := textS_ok h1
    simp only
    by_cases he : e1 = 0
    · exact (hok.1 he).2.2
    · rw [(hok.2 he).1]; simp
theorem _root_.Go.World.heap_setCell_ne' (w : World) (p : Addr) (u : Value) {g : Nat} (h : p.block ≠ g) : (w.setCell p u).heap[g]? = w.heap[g]? := by simp [World.setCell, Array.getElem?_modify, h]
set_option maxRecDepth 100000 in
set_option maxHeartbeats 2000000 in
theorem decode_any (s : List UInt8) (x : Blk) (k e : Int) (w : World) (hs : s.length ≤ 1000000000) (hr : decS s = (x, k, e)) :
    Calls Tryz.prog 266 #[.string (B s)] w fun e' w' => e' = .returned (.tuple #[.agg #[.int .i64 x.kind, .int .i64 x.flags, .string (B x.data)], .int .i64 k, .int .i64 e]) ∧ Below w.heap.size w w' := by
  obtain ⟨⟨t, c, e0⟩, h0⟩ : ∃ q, openS tailB s = q := ⟨_, rfl⟩
  have HL := hr
  unfold decS at HL
  rw [h0] at HL
  simp only at HL
  have hok := openS_len h0
  have H0 := Lib.hid h0
  clear hr h0
  by_cases he : e0 = 0
  case neg =>
    rw [if_pos he] at HL
    obtain ⟨rfl, rfl, rfl⟩ := trip HL
    have he' : (e0 == 0) = false := beq_eq_false_iff_ne.2 he
    rw [show (Value.agg #[.int .i64 zBlk.kind, .int .i64 zBlk.flags, .string (B zBlk.data)]) = .agg #[.int .i64 0, .int .i64 0, .string (B [])] from rfl]
    clear he HL hok
    go_enter Tryz.func266, Tryz.ntmps266
    go_wp2_with fail
    refine (open_any s t c e0 _ hs H0.out).mono ?_
    rintro e' w1 ⟨rfl, hb1⟩
    have z1 : w.heap.size < w1.heap.size := by have := hb1.size; simp at this; omega
    have G1 : w1.heap[w.heap.size]? = some (.cells #[.int .i64 0, .int .i64 0, .string (B [])] 91 (0, 0)) := (hb1.block _ (by simp)).trans heap_new
    have ca := fun o => cellB G1 o
    have fa := fun o => frozenB G1 o
    go_wp2
    refine bodyPost_ret (v := .tuple #[.agg #[.int .i64 0, .int .i64 0, .string { data := #[] }], .int .i64 0, .int .i64 e0]) (by simp [results, Tryz.results266, go_sem, World.cell?_setCell_same', ca]) rfl ?_
    exact ⟨rfl, belowA⟩
  subst he
  rw [if_neg (by simp)] at HL
  obtain ⟨⟨n1, a1, e1⟩, h1⟩ : ∃ q, rdI t 0 0 = q := ⟨_, rfl⟩
  obtain ⟨⟨n2, a2, e2⟩, h2⟩ : ∃ q, rdI t a1 e1 = q := ⟨_, rfl⟩
  obtain ⟨⟨d, a3, e3⟩, h3⟩ : ∃ q, rdT t a2 e2 = q := ⟨_, rfl⟩
  rw [body_eq h1 h2 h3] at HL
  have HLL := Lib.hid HL
  have ha1 := rdI_ok h1 (Nat.zero_le _)
  have ha2 := rdI_ok h2 ha1
  have ht : t.length ≤ 1000000000 := by omega
  have H1 := Lib.hid h1
  have H2 := Lib.hid h2
  have H3 := Lib.hid h3
  clear h1 h2 h3 HL hok
  go_enter Tryz.func266, Tryz.ntmps266
  go_wp2_with fail
  refine (open_any s t c 0 _ hs H0.out).mono ?_
  rintro e' w1 ⟨rfl, hb1⟩
  have hB1 : Below w.heap.size w w1 := belowA
  have q1 : w.heap.size < w1.heap.size := by have := hb1.size; simp at this; omega
  have G1 : w1.heap[w.heap.size]? = some (.cells #[.int .i64 0, .int .i64 0, .string (B [])] 91 (0, 0)) := (hb1.block _ (by simp)).trans heap_new
  clear hb1
  go_wp2_with fail
  refine (number_any t 0 a1 n1 0 e1 w1.heap.size _ (by exact heap_new) (Nat.zero_le _) ht H1.out).mono ?_
  rintro e' w2 ⟨rfl, R2, K2, hb2⟩
  have q2 : w1.heap.size < w2.heap.size := by have := K2.1; simp at this; omega
  have G2 := (K2.2 w.heap.size (by simp; omega) (by omega)).trans ((Below.heap_alloc _ _ _ q1).trans G1)
  have hB2 : Below w.heap.size w w2 := by exact btrans (balloc0 hB1) hb2 (by omega)
  clear K2 hb2 G1
  go_wp2_with fail
  refine (number_any t a1 a2 n2 e1 e2 w1.heap.size _ R2 ha1 ht H2.out).mono ?_
  rintro e' w3 ⟨rfl, R3, K3, hb3⟩
  have q3 : w2.heap.size ≤ w3.heap.size := K3.1
  have G3 := (K3.2 w.heap.size (by omega) (by omega)).trans G2
  have hB3 : Below w.heap.size w w3 := by exact btrans hB2 hb3 (by omega)
  clear K3 hb3 G2 R2
  go_wp2_with fail
  refine (text_any t d a2 a3 e2 e3 w1.heap.size _ ((Below.heap_alloc _ _ _ (by omega)).trans R3) ha2 ht H3.out).mono ?_
  rintro e' w4 ⟨rfl, R4, K4, hb4⟩
  have q4 : w3.heap.size < w4.heap.size := by have := K4.1; simp at this; omega
  have G4 := (K4.2 w.heap.size (by simp; omega) (by omega)).trans ((Below.heap_alloc _ _ _ (by omega)).trans G3)
  have X4 : w4.heap[w3.heap.size]? = some (.cells #[.int .i64 n1, .int .i64 n2, .string (B [])] 91 (0, 0)) := (K4.2 w3.heap.size (by simp) (by omega)).trans (by exact heap_new)
  have hB4 : Below w.heap.size w w4 := by exact btrans (balloc0 hB3) hb4 (by omega)
  clear K4 hb4 G3 R3
  have hl := HLL.out
  clear HLL
  have hne1 : w3.heap.size ≠ w1.heap.size := by omega
  have hne2 : w3.heap.size ≠ w.heap.size := by omega
  have hne3 : w1.heap.size ≠ w.heap.size := by omega
  generalize w1.heap.size = rb at *
  generalize w3.heap.size = bb at *
  unfold Rdr at R4
  have ca := fun o => cellB R4 o
  have fa := fun o => frozenB R4 o
  have cb := fun o => cellB G4 o
  have fb := fun o => frozenB G4 o
  have cx := fun o => cellB X4 o
  have fx := fun o => frozenB X4 o
  simp only [BRdC] at ca
  by_cases he3 : e3 = 0
  case neg =>
    have he' : (e3 == 0) = false := beq_eq_false_iff_ne.2 he3
    rw [if_pos he3] at hl
    obtain ⟨rfl, rfl, rfl⟩ := trip hl
    clear hl
    go_wp2
    refine bodyPost_ret (v := .tuple #[.agg #[.int .i64 0, .int .i64 0, .string { data := #[] }], .int .i64 0, .int .i64 11]) (by simp [results, Tryz.results266, go_sem, World.cell?_setCell_same', cb]) rfl ?_
    exact ⟨rfl, belowA⟩
  subst he3
  rw [if_neg (by simp)] at hl
  by_cases hal : a3 = t.length
  case neg =>
    rw [if_pos hal] at hl
    obtain ⟨rfl, rfl, rfl⟩ := trip hl
    have ha' : ((a3 : Int) == (t.length : Int)) = false := beq_eq_false_iff_ne.2 (by omega)
    have hal2 : ¬ (a3 : Int) = (t.length : Int) := by omega
    clear hal hl
    go_wp2
    refine bodyPost_ret (v := .tuple #[.agg #[.int .i64 0, .int .i64 0, .string { data := #[] }], .int .i64 0, .int .i64 11]) (by simp [results, Tryz.results266, go_sem, World.cell?_setCell_same', cb]) rfl ?_
    exact ⟨rfl, belowA⟩
  rw [if_neg (by simp [hal])] at hl
  have hal3 : (a3 : Int) = (t.length : Int) := by omega
  have hdl : d.length ≤ 9223372036854775807 := by
    have := rdT_len H3.out; omega
  clear hal
  obtain ⟨E, hE⟩ : ∃ E, blkE ⟨n1, n2, d⟩ = E := ⟨_, rfl⟩
  rw [hE] at hl
  by_cases hz : E = 0
  case neg =>
    have hz' : (E == 0) = false := beq_eq_false_iff_ne.2 hz
    rw [if_pos hz] at hl
    obtain ⟨rfl, rfl, rfl⟩ := trip hl
    have HE := Lib.hid hE
    clear hl hE
    go_wp2_with fail
    refine (bcheck_any ⟨n1, n2, d⟩ _ hdl).mono ?_
    rw [HE.out]
    rintro e' w5 ⟨rfl, hb5⟩
    have G5 := (hb5.block _ (by simp; omega)).trans ((World.heap_setCell_ne' _ _ _ hne2).trans G4)
    have cb := fun o => cellB G5 o
    have fb := fun o => frozenB G5 o
    go_wp2
    refine bodyPost_ret (v := .tuple #[.agg #[.int .i64 0, .int .i64 0, .string { data := #[] }], .int .i64 0, .int .i64 11]) (by simp [results, Tryz.results266, go_sem, World.cell?_setCell_same', cb]) rfl ?_
    exact ⟨rfl, belowA⟩
  subst hz
  rw [if_neg (by simp)] at hl
  obtain ⟨rfl, rfl, rfl⟩ := trip hl
  have HE := Lib.hid hE
  clear hl hE
  go_wp2_with fail
  refine (bcheck_any ⟨n1, n2, d⟩ _ hdl).mono ?_
  rw [HE.out]
  rintro e' w5 ⟨rfl, hb5⟩
  have G5 := (hb5.block _ (by simp; omega)).trans ((World.heap_setCell_ne' _ _ _ hne2).trans G4)
  have X5 := (hb5.block _ (by simp; omega)).trans (setB X4 2 (.string (B d)))
  have cb := fun o => cellB G5 o
  have fb := fun o => frozenB G5 o
  have cx := fun o => cellB X5 o
  go_wp2
  refine bodyPost_ret (v := .tuple #[.agg #[.int .i64 n1, .int .i64 n2, .string (B d)], .int .i64 c, .int .i64 0]) (by simp [results, Tryz.results266, go_sem, World.cell?_setCell_same', cb]) rfl ?_
  exact ⟨rfl, belowA⟩
end Go.Proofs.YtmknchdciblfjaaGreat
