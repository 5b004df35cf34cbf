/- Layer 14 (extension): the reader's numbers; what the data of the three blocks are; plain law. -/
import Derived.Test.YthgokfceakbjlaaJm
import Derived.Test.YthgokfceakbjlaaJj
import Derived.Test.YthgokfceakbjlaaJo
set_option linter.unusedVariables false
set_option linter.unusedSimpArgs false
namespace Go.Proofs.Ythgokfceakbjlaa
open Go Go.RowKit
attribute [local go_sem] B_getElem B_size B_app B_extract B_get B_toList

def RdxC (u : List UInt8) (q : Bool) : Array Value := #[.string (B u), .bool q]
/-- a reader in box rb -/
def Rdx (w : World) (rb : Nat) (u : List UInt8) (q : Bool) : Prop := w.heap[rb]? = some (.cells (RdxC u q) 97 (0, 0))
def nmS (u : List UInt8) (q : Bool) (n k e : Int) : Int × List UInt8 × Bool := if q = true ∨ e ≠ 0 then (0, u, true) else (n, u.drop k.toNat, false)
theorem nmS_bad {u : List UInt8} {q : Bool} {n k e : Int} (h : q = true ∨ e ≠ 0) : nmS u q n k e = (0, u, true) := if_pos h
theorem nmS_ok (u : List UInt8) (n k : Int) : nmS u false n k 0 = (n, u.drop k.toNat, false) := if_neg (by simp)
def NumPost (r : Int × List UInt8 × Bool) (rb : Nat) (w : World) (e : Ending) (w' : World) : Prop := e = .returned (.int .i64 r.1) ∧ Rdx w' rb r.2.1 r.2.2 ∧ KpX w.heap.size rb w w' ∧ Below rb w w'
set_option maxHeartbeats 1000000 in
theorem pnumber_any (u : List UInt8) (q : Bool) (n k e : Int) (rb : Nat) (w : World) (h : Rdx w rb u q) (hu : u.length ≤ 1000000000) (hr : readS u = (n, k, e)) :
    Calls Try.prog 78 #[.pointer (some ⟨rb, 0, none⟩)] w (NumPost (nmS u q n k e) rb w) := by
  have hrb : rb < w.heap.size := by
    rcases Nat.lt_or_ge rb w.heap.size with z | z
    · exact z
    · unfold Rdx at h; rw [Array.getElem?_eq_none z] at h; cases h
  have H := Lib.hid h
  unfold Rdx at h
  have ca := fun o => cellB h o
  simp only [RdxC] at ca
  have hok := readS_ok hr
  have HR := Lib.hid hr
  clear h hr
  by_cases hq : q = true ∨ e ≠ 0
  · rw [nmS_bad hq]
    cases q with
    | true =>
      clear hq hok
      go_enter Try.func78, Try.ntmps78
      go_wp2_with fail
      refine (readint_any u n k e _ hu HR.out).mono ?_
      rintro e' w2 ⟨rfl, hb2⟩
      have hB2 : Below w.heap.size w w2 := (by repeat' (first | with_reducible (first | refine bset ?_ ?_ | exact Below.refl _ _ | assumption | refine bdrewN ?_ _ | refine bdrew ?_ | refine balloc0 ?_ | refine balloc ?_ ?_ | (apply btrans0; rotate_left; assumption) | (apply btrans; rotate_left; assumption)) | exact Below.refl _ _ | assumption | (apply btrans0; rotate_left; assumption) | (apply btrans; rotate_left; assumption) | (simp; done) | omega | (simp; omega)))
      have G2 := (hb2.block rb hrb).trans H.out
      have ca := fun o => cellB G2 o
      have fa := fun o => frozenB G2 o
      simp only [RdxC] at ca
      have HG := Lib.hid G2
      clear G2 hb2
      go_wp2
      go_ret
      exact ⟨rfl, by simpa [RdxC, Rdx] using setB HG.out 1 (.bool true), fld_set hB2 hrb⟩
    | false =>
      have he : e ≠ 0 := hq.resolve_left (by simp)
      have he1 : (e == 0) = false := beq_eq_false_iff_ne.2 he
      have he2 : (e != 0) = true := by rw [bne_iff_ne]; exact he
      clear hq hok he
      go_enter Try.func78, Try.ntmps78
      go_wp2_with fail
      refine (readint_any u n k e _ hu HR.out).mono ?_
      rintro e' w2 ⟨rfl, hb2⟩
      have hB2 : Below w.heap.size w w2 := (by repeat' (first | with_reducible (first | refine bset ?_ ?_ | exact Below.refl _ _ | assumption | refine bdrewN ?_ _ | refine bdrew ?_ | refine balloc0 ?_ | refine balloc ?_ ?_ | (apply btrans0; rotate_left; assumption) | (apply btrans; rotate_left; assumption)) | exact Below.refl _ _ | assumption | (apply btrans0; rotate_left; assumption) | (apply btrans; rotate_left; assumption) | (simp; done) | omega | (simp; omega)))
      have G2 := (hb2.block rb hrb).trans H.out
      have ca := fun o => cellB G2 o
      have fa := fun o => frozenB G2 o
      simp only [RdxC] at ca
      have HG := Lib.hid G2
      clear G2 hb2
      go_wp2
      go_ret
      exact ⟨rfl, by simpa [RdxC, Rdx] using setB HG.out 1 (.bool true), fld_set hB2 hrb⟩
  · rw [not_or] at hq
    obtain rfl : q = false := by simpa using hq.1
    obtain rfl : e = 0 := Decidable.not_not.1 hq.2
    rw [nmS_ok]
    obtain ⟨h1, h2, h3, _, _⟩ := hok.1 rfl
    obtain ⟨m, rfl⟩ : ∃ m : Nat, k = m := ⟨k.toNat, by omega⟩
    rw [Int.toNat_natCast]
    have i3 : (u.drop m).take (u.length - m) = u.drop m := List.take_of_length_le (by rw [List.length_drop]; exact Nat.le_refl _)
    have i0 : (0 : Int) ≤ (m : Int) := by omega
    clear hq hok
    go_enter Try.func78, Try.ntmps78
    go_wp2_with fail
    refine (readint_any u n m 0 _ hu HR.out).mono ?_
    rintro e' w2 ⟨rfl, hb2⟩
    have hB2 : Below w.heap.size w w2 := (by repeat' (first | with_reducible (first | refine bset ?_ ?_ | exact Below.refl _ _ | assumption | refine bdrewN ?_ _ | refine bdrew ?_ | refine balloc0 ?_ | refine balloc ?_ ?_ | (apply btrans0; rotate_left; assumption) | (apply btrans; rotate_left; assumption)) | exact Below.refl _ _ | assumption | (apply btrans0; rotate_left; assumption) | (apply btrans; rotate_left; assumption) | (simp; done) | omega | (simp; omega)))
    have G2 := (hb2.block rb hrb).trans H.out
    have ca := fun o => cellB G2 o
    have fa := fun o => frozenB G2 o
    simp only [RdxC] at ca
    have HG := Lib.hid G2
    clear G2 hb2
    go_wp2
    go_ret
    exact ⟨rfl, by simpa [RdxC, Rdx] using setB HG.out 0 (.string (B (u.drop m))), fld_set hB2 hrb⟩

def rdW : Nat → List UInt8 → Bool → List Int × List UInt8 × Bool
  | 0, u, q => ([], u, q)
  | f + 1, u, q => ((nmS u q (readS u).1 (readS u).2.1 (readS u).2.2).1 :: (rdW f (nmS u q (readS u).1 (readS u).2.1 (readS u).2.2).2.1 (nmS u q (readS u).1 (readS u).2.1 (readS u).2.2).2.2).1, (rdW f (nmS u q (readS u).1 (readS u).2.1 (readS u).2.2).2.1 (nmS u q (readS u).1 (readS u).2.1 (readS u).2.2).2.2).2)
theorem rdW_step {f : Nat} {u U : List UInt8} {q Q : Bool} {n k e N : Int} (h : readS u = (n, k, e)) (h2 : nmS u q n k e = (N, U, Q)) : rdW (f + 1) u q = (N :: (rdW f U Q).1, (rdW f U Q).2) := by rw [rdW, h]; simp only; rw [h2]
theorem rdW_spec : ∀ (f : Nat) (u : List UInt8) (q : Bool) (L : List Int) (U : List UInt8) (Q : Bool), rdW f u q = (L, U, Q) →
    L.length = f ∧ U.length ≤ u.length ∧ (Q = false → q = false ∧ ∃ m, rdNs f u = some (L, m) ∧ m + U.length = u.length) ∧ (Q = true → q = true ∨ rdNs f u = none)
  | 0, u, q, L, U, Q, h => by
    rw [rdW] at h
    obtain ⟨rfl, rfl, rfl⟩ := trip h
    exact ⟨rfl, Nat.le_refl _, fun hq => ⟨hq, 0, rfl, by omega⟩, fun hq => .inl hq⟩
  | f + 1, u, q, L, U, Q, h => by
    obtain ⟨⟨n, k, e⟩, hr⟩ : ∃ r, readS u = r := ⟨_, rfl⟩
    obtain ⟨⟨N, U2, Q2⟩, h2⟩ : ∃ r, nmS u q n k e = r := ⟨_, rfl⟩
    rw [rdW_step hr h2] at h
    obtain ⟨⟨L3, U3, Q3⟩, h3⟩ : ∃ r, rdW f U2 Q2 = r := ⟨_, rfl⟩
    rw [h3] at h
    obtain ⟨rfl, rfl, rfl⟩ := trip h
    obtain ⟨g1, g2, g3, g4⟩ := rdW_spec f U2 Q2 L3 _ _ h3
    by_cases hq : q = true ∨ e ≠ 0
    · rw [nmS_bad hq] at h2
      obtain ⟨rfl, rfl, rfl⟩ := trip h2
      refine ⟨by simp [g1], g2, fun h => absurd (g3 h).1 (by simp), fun _ => ?_⟩
      rcases hq with hq | he
      · exact .inl hq
      · right; rw [rdNs, hr]; simp only; rw [if_pos he]
    · rw [not_or] at hq
      obtain rfl : q = false := by simpa using hq.1
      obtain rfl : e = 0 := Decidable.not_not.1 hq.2
      rw [nmS_ok] at h2
      obtain ⟨rfl, rfl, rfl⟩ := trip h2
      have hk := (readS_ok hr).1 rfl
      rw [List.length_drop] at g2
      refine ⟨by simp [g1], by omega, fun h => ?_, fun h => ?_⟩
      · obtain ⟨_, m, p1, p2⟩ := g3 h
        rw [List.length_drop] at p2
        refine ⟨rfl, k.toNat + m, ?_, by omega⟩
        rw [rdNs, hr]; simp only; rw [if_neg (by simp), p1]
      · right
        rcases g4 h with h | h
        · cases h
        · rw [rdNs, hr]; simp only; rw [if_neg (by simp), h]
/-! what the data are -/
def lstR (s : List UInt8) : Option (List Int × Nat) := if (lenS s).2.2 ≠ 0 then none else match rdNs (lenS s).1.toNat (s.drop (lenS s).2.1.toNat) with
  | none => none
  | some (l, m) => some (l, (lenS s).2.1.toNat + m)
def nodeB (n : Int) : Bool := decide (0 ≤ n ∧ n < 16)
def visB (l : List Int) : Bool := l.all nodeB && decide l.Nodup
theorem visB_snoc (l : List Int) (x : Int) : visB (l ++ [x]) = (visB l && (nodeB x && !l.contains x)) := by
  rw [Bool.eq_iff_iff]
  simp only [visB, List.all_append, List.all_cons, List.all_nil, Bool.and_true, Bool.and_eq_true, decide_eq_true_eq, Bool.not_eq_true', List.nodup_append, List.contains_eq_mem, decide_eq_false_iff_not]
  constructor
  · rintro ⟨⟨h1, h2⟩, h3, -, h5⟩
    exact ⟨⟨h1, h3⟩, h2, fun hx => h5 x hx x (by simp) rfl⟩
  · rintro ⟨⟨h1, h3⟩, h2, h4⟩
    exact ⟨⟨h1, h2⟩, h3, by simp, fun a ha b hb => by simp at hb; subst hb; intro e; subst e; exact h4 ha⟩
def num1 (s : List UInt8) : Option (List Int) := match rdNs 1 s with
  | none => none
  | some (l, m) => if m = s.length ∧ 0 ≤ l.getD 0 0 ∧ l.getD 0 0 ≤ 1099511627776 then some l else none
def num2 (s : List UInt8) : Option (List Int) := match rdNs 2 s with
  | none => none
  | some (l, m) => if m = s.length ∧ 1 ≤ l.getD 0 0 ∧ l.getD 0 0 ≤ 255 ∧ 0 ≤ l.getD 1 0 ∧ l.getD 1 0 ≤ l.getD 0 0 then some l else none
def num3 (s : List UInt8) : Option (List Int) := match lstR s with
  | none => none
  | some (l, m) => if m = s.length ∧ visB l = true then some l else none
/-- the numbers in the data of a block of a kind -/
def dat (kind : Int) (s : List UInt8) : Option (List Int) := if kind = 1 then num1 s else if kind = 2 then num2 s else num3 s
def listE (l : List Int) : List UInt8 := intE l.length ++ l.flatMap intE
theorem intE_pos (n : Int) : 1 ≤ (intE n).length := (intE_len n).1
theorem ints_len_le : ∀ (l : List Int), l.length ≤ (l.flatMap intE).length
  | [] => Nat.le_refl _
  | n :: l => by
    have := ints_len_le l
    have := intE_pos n
    rw [List.flatMap_cons, List.length_append, List.length_cons]; omega
theorem rdNs_len {f m : Nat} {t : List UInt8} {l : List Int} (h : rdNs f t = some (l, m)) : l.length = f ∧ l.length ≤ m ∧ m ≤ t.length := by
  obtain ⟨⟨r, hr⟩, h2, h3⟩ := enc_rdNs f t l m h
  have := ints_len_le l
  refine ⟨h3, by omega, ?_⟩
  rw [hr, List.length_append]; omega
theorem lenS_err {s : List UInt8} {n k e : Int} (h : lenS s = (n, k, e)) (he : e ≠ 0) : n = 0 ∧ k = 0 := by
  unfold lenS at h
  split at h
  · simp only [Prod.mk.injEq] at h; exact ⟨h.1.symm, h.2.1.symm⟩
  · split at h
    · simp only [Prod.mk.injEq] at h; exact ⟨h.1.symm, h.2.1.symm⟩
    · rename_i h2 _
      rw [h] at h2
      exact absurd (Decidable.not_not.1 h2) he
theorem lenS_read {s : List UInt8} {n k : Int} (h : lenS s = (n, k, 0)) : readS s = (n, k, 0) ∧ 0 ≤ n ∧ n ≤ 65536 := by
  unfold lenS at h
  split at h
  · simp only [Prod.mk.injEq] at h; exact absurd h.2.2 (by assumption)
  · split at h
    · simp at h
    · rename_i h2
      rw [h] at h2
      simp only at h2
      exact ⟨h, by omega, by omega⟩
theorem lstR_some {s : List UInt8} {l : List Int} {m : Nat} (h : lstR s = some (l, m)) : ∃ n k : Nat, lenS s = ((n : Int), (k : Int), 0) ∧ n ≤ 65536 ∧ k ≤ s.length ∧ rdNs n (s.drop k) = some (l, m - k) ∧ k ≤ m ∧ m ≤ s.length ∧ l.length = n ∧ l.length ≤ s.length := by
  unfold lstR at h
  obtain ⟨⟨n, k, e⟩, hq⟩ : ∃ q, lenS s = q := ⟨_, rfl⟩
  rw [hq] at h
  simp only at h
  split at h
  · cases h
  rename_i he
  obtain rfl : e = 0 := Decidable.not_not.1 he
  obtain ⟨h1, h2, h3⟩ := lenS_read hq
  obtain ⟨k1, k2, k3, k4, k5⟩ := (readS_ok h1).1 rfl
  split at h
  · cases h
  rename_i l2 m2 h4
  simp only [Option.some.injEq, Prod.mk.injEq] at h
  obtain ⟨rfl, rfl⟩ := h
  have := rdNs_len h4
  rw [List.length_drop] at this
  refine ⟨n.toNat, k.toNat, by rw [hq, Int.toNat_of_nonneg h2, Int.toNat_of_nonneg (by omega)], by omega, by omega, by rw [h4]; congr 2; omega, by omega, by omega, this.1, by omega⟩
theorem lstR_none {s : List UInt8} {n k e : Int} (h : lenS s = (n, k, e)) (he : e ≠ 0) : lstR s = none := by unfold lstR; rw [h]; exact if_pos he
theorem lstR_none2 {s : List UInt8} {n k : Nat} (h : lenS s = ((n : Int), (k : Int), 0)) (h2 : rdNs n (s.drop k) = none) : lstR s = none := by
  unfold lstR; rw [h]; simp only [Int.toNat_natCast]; rw [if_neg (by simp), h2]
theorem lstR_of {s : List UInt8} {n k m : Nat} {l : List Int} (h : lenS s = ((n : Int), (k : Int), 0)) (h2 : rdNs n (s.drop k) = some (l, m)) : lstR s = some (l, k + m) := by
  unfold lstR; rw [h]; simp only [Int.toNat_natCast]; rw [if_neg (by simp), h2]
end Go.Proofs.Ythgokfceakbjlaa
