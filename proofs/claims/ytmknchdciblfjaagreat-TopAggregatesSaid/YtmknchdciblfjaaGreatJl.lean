/- Joined by port.py: XDo XDp -/
import Derived.Test.YtmknchdciblfjaaGreatJk
import Derived.Test.YtmknchdciblfjaaGreatJh
import Derived.Test.YtmknchdciblfjaaGreatJa
import Derived.Test.YtmknchdciblfjaaGreatJb
import Derived.Test.YtmknchdciblfjaaGreatJd
import Derived.Test.YtmknchdciblfjaaGreatJf
import Derived.Test.YtmknchdciblfjaaGreatJg
import Derived.Test.YtmknchdciblfjaaGreatJiz
set_option linter.unusedVariables false
set_option linter.unusedSimpArgs false
/-! XDo -/
namespace Go.Proofs.YtmknchdciblfjaaGreat
open Go Go.RowKit
attribute [local go_sem] B_getElem B_size B_app B_extract B_get B_toList
/-- f blocks, one after the other, behind a kind: the blocks, their size, the error -/
def decR : Nat → Option Int → List UInt8 → List Blk × Nat × Int
  | 0, _, _ => ([], 0, 0)
  | f + 1, p, s =>
    if (decS s).2.2 ≠ 0 then ([], 0, (decS s).2.2)
    else if (∃ q, p = some q ∧ (decS s).1.kind ≤ q) then ([], 0, 11)
    else if (decR f (some (decS s).1.kind) (s.drop (decS s).2.1.toNat)).2.2 ≠ 0 then ([], 0, (decR f (some (decS s).1.kind) (s.drop (decS s).2.1.toNat)).2.2)
    else ((decS s).1 :: (decR f (some (decS s).1.kind) (s.drop (decS s).2.1.toNat)).1, (decS s).2.1.toNat + (decR f (some (decS s).1.kind) (s.drop (decS s).2.1.toNat)).2.1, 0)
/-- what DecodeAll answers -/
def decAS (s : List UInt8) : List Blk × Nat × Int :=
  if (readS s).2.2 ≠ 0 then ([], 0, (readS s).2.2)
  else if (readS s).1 < 0 ∨ 8 < (readS s).1 then ([], 0, 11)
  else if (decR (readS s).1.toNat none (s.drop (readS s).2.1.toNat)).2.2 ≠ 0 then ([], 0, (decR (readS s).1.toNat none (s.drop (readS s).2.1.toNat)).2.2)
  else ((decR (readS s).1.toNat none (s.drop (readS s).2.1.toNat)).1, (readS s).2.1.toNat + (decR (readS s).1.toNat none (s.drop (readS s).2.1.toNat)).2.1, 0)
/-- what is left to do, joined to what is done -/
def Left (acc : List Blk) (p : Nat) (r : List Blk × Nat × Int) : List Blk × Nat × Int := if r.2.2 ≠ 0 then ([], 0, r.2.2) else (acc ++ r.1, p + r.2.1, 0)
theorem openS_ok {T : List UInt8 → List UInt8} {s t : List UInt8} {c e : Int} (h : openS T s = (t, c, e)) : e = 0 → 1 ≤ c ∧ c ≤ s.length := by
  intro he
  unfold openS at h
  obtain ⟨⟨n, k, f⟩, hr⟩ : ∃ q, readS s = q := ⟨_, rfl⟩
  rw [hr] at h
  simp only at h
  have hok := readS_ok hr
  split at h
  · rename_i h1; obtain ⟨_, _, h3⟩ := trip h; exact absurd (h3.trans he) h1
  · rename_i h1
    have := hok.1 (Decidable.not_not.1 h1)
    split at h
    · obtain ⟨_, _, rfl⟩ := trip h; exact absurd he (by decide)
    · split at h
      · obtain ⟨_, _, rfl⟩ := trip h; exact absurd he (by decide)
      · split at h
        · obtain ⟨_, _, rfl⟩ := trip h; exact absurd he (by decide)
        · obtain ⟨_, rfl, _⟩ := trip h; omega
theorem bodyS_ok {t : List UInt8} {x : Blk} (h : bodyS t = some x) : blkE x = 0 := by
  unfold bodyS at h
  split at h
  · cases h
  · split at h
    · cases h
    · split at h
      · cases h
      · split at h
        · cases h
        · split at h
          · cases h
          · rename_i h5
            injection h with h
            rw [← h]
            exact Decidable.not_not.1 h5
theorem decS_ok {s : List UInt8} {x : Blk} {c e : Int} (h : decS s = (x, c, e)) : (e = 0 → 1 ≤ c ∧ c ≤ s.length ∧ blkE x = 0) ∧ (e ≠ 0 → x = zBlk ∧ c = 0) := by
  unfold decS at h
  obtain ⟨⟨t, k, f⟩, hr⟩ : ∃ q, openS tailB s = q := ⟨_, rfl⟩
  rw [hr] at h
  simp only at h
  have hok := openS_ok hr
  split at h
  · obtain ⟨rfl, rfl, rfl⟩ := trip h; rename_i h1; exact ⟨fun h => absurd h h1, fun _ => ⟨rfl, rfl⟩⟩
  · rename_i h1
    have := hok (Decidable.not_not.1 h1)
    split at h
    · obtain ⟨rfl, rfl, rfl⟩ := trip h; exact ⟨fun h => absurd h (by decide), fun _ => ⟨rfl, rfl⟩⟩
    · rename_i b hb
      obtain ⟨rfl, rfl, rfl⟩ := trip h; exact ⟨fun _ => ⟨this.1, this.2, bodyS_ok hb⟩, fun h => absurd rfl h⟩
/-- a round of the reading -/
theorem decR_err {f : Nat} {q : Option Int} {s : List UInt8} {x : Blk} {c e : Int} (h : decS s = (x, c, e)) (he : e ≠ 0) : decR (f + 1) q s = ([], 0, e) := by
  rw [decR, h]; exact if_pos he
theorem decR_order {f : Nat} {q : Option Int} {s : List UInt8} {x : Blk} {c : Int} (h : decS s = (x, c, 0)) (hq : ∃ k, q = some k ∧ x.kind ≤ k) : decR (f + 1) q s = ([], 0, 11) := by
  rw [decR, h]; exact (if_neg (by simp)).trans (if_pos hq)
theorem decR_bad {f : Nat} {q : Option Int} {s : List UInt8} {x : Blk} {c : Int} (h : decS s = (x, c, 0)) (hq : ¬ ∃ k, q = some k ∧ x.kind ≤ k) (hz : (decR f (some x.kind) (s.drop c.toNat)).2.2 ≠ 0) : decR (f + 1) q s = ([], 0, (decR f (some x.kind) (s.drop c.toNat)).2.2) := by
  rw [decR, h]; exact (if_neg (by simp)).trans ((if_neg hq).trans (if_pos hz))
theorem decR_ok {f : Nat} {q : Option Int} {s : List UInt8} {x : Blk} {c : Int} (h : decS s = (x, c, 0)) (hq : ¬ ∃ k, q = some k ∧ x.kind ≤ k) (hz : (decR f (some x.kind) (s.drop c.toNat)).2.2 = 0) : decR (f + 1) q s = (x :: (decR f (some x.kind) (s.drop c.toNat)).1, c.toNat + (decR f (some x.kind) (s.drop c.toNat)).2.1, 0) := by
  rw [decR, h]; exact (if_neg (by simp)).trans ((if_neg hq).trans (if_neg (by simpa using hz)))
theorem left_err {acc : List Blk} {p f : Nat} {q : Option Int} {s : List UInt8} {x : Blk} {c e : Int} (h : decS s = (x, c, e)) (he : e ≠ 0) : Left acc p (decR (f + 1) q s) = ([], 0, e) := by
  rw [decR_err h he]; exact if_pos he
theorem left_order {acc : List Blk} {p f : Nat} {q : Option Int} {s : List UInt8} {x : Blk} {c : Int} (h : decS s = (x, c, 0)) (hq : ∃ k, q = some k ∧ x.kind ≤ k) : Left acc p (decR (f + 1) q s) = ([], 0, 11) := by
  rw [decR_order h hq]; rfl
theorem left_step {acc : List Blk} {p f : Nat} {q : Option Int} {s : List UInt8} {x : Blk} {c : Int} (h : decS s = (x, c, 0)) (hq : ¬ ∃ k, q = some k ∧ x.kind ≤ k) : Left acc p (decR (f + 1) q s) = Left (acc ++ [x]) (p + c.toNat) (decR f (some x.kind) (s.drop c.toNat)) := by
  by_cases hz : (decR f (some x.kind) (s.drop c.toNat)).2.2 = 0
  · rw [decR_ok h hq hz]
    unfold Left
    rw [if_neg (by simp), if_neg (by simp [hz])]
    simp only [List.append_assoc, List.singleton_append, Nat.add_assoc]
  · rw [decR_bad h hq hz]
    unfold Left
    rw [if_pos hz, if_pos hz]
set_option maxRecDepth 100000 in
set_option maxHeartbeats 3000000 in
theorem decodeAll_any (s : List UInt8) (L : List Blk) (K : Nat) (E : Int) (w : World) (hs : s.length ≤ 1000000000) (hr : decAS s = (L, K, E)) :
    Calls Tryz.prog 251 #[.string (B s)] w fun e w' => ∃ v, e = .returned (.tuple #[v, .int .i64 (K : Int), .int .i64 E]) ∧ RBlks w' w'.heap.size v L ∧ Below w.heap.size w w' ∧ RFrom w.heap.size v := by
  obtain ⟨⟨n0, k0, e0⟩, h0⟩ : ∃ q, readS s = q := ⟨_, rfl⟩
  have HL := hr
  unfold decAS at HL
  rw [h0] at HL
  simp only at HL
  have hok := readS_ok h0
  have H0 := Lib.hid h0
  clear hr h0
  by_cases he : e0 = 0
  case neg =>
    rw [if_pos he] at HL
    obtain ⟨rfl, rfl, rfl⟩ := trip HL
    have he' : (e0 == 0) = false := beq_eq_false_iff_ne.2 he
    clear HL hok
    go_enter Tryz.func251, Tryz.ntmps251
    go_wp2_with fail
    refine (readint_any s n0 k0 e0 _ hs H0.out).mono ?_
    rintro e' w1 ⟨rfl, hb1⟩
    go_wp2
    go_ret3
    exact ⟨_, rfl, RBlks.nil _ _, belowA, RFrom.nil _⟩
  subst he
  rw [if_neg (by simp)] at HL
  obtain ⟨g1, g2, g3, _, _⟩ := hok.1 rfl
  clear hok
  by_cases hn : n0 < 0 ∨ 8 < n0
  · rw [if_pos hn] at HL
    obtain ⟨rfl, rfl, rfl⟩ := trip HL
    clear HL
    rcases hn with hn | hn
    all_goals
      go_enter Tryz.func251, Tryz.ntmps251
      go_wp2_with fail
      refine (readint_any s n0 k0 0 _ hs H0.out).mono ?_
      rintro e' w1 ⟨rfl, hb1⟩
      go_wp2
      go_ret3
      exact ⟨_, rfl, RBlks.nil _ _, belowA, RFrom.nil _⟩
  rw [if_neg hn] at HL
  have n1 : ¬ n0 < 0 := by omega
  have n2 : ¬ 8 < n0 := by omega
  obtain ⟨n, rfl⟩ : ∃ n : Nat, n0 = n := ⟨n0.toNat, by omega⟩
  obtain ⟨a, rfl⟩ : ∃ a : Nat, k0 = a := ⟨k0.toNat, by omega⟩
  simp only [Int.toNat_natCast] at HL
  have HLL : Hid (Left [] a (decR n none (s.drop a)) = (L, K, E)) := Lib.hid HL
  obtain ⟨i0, hin, hz0, hz1, hz2⟩ := info_parts infoBlk
  clear HL hn
  go_enter Tryz.func251, Tryz.ntmps251
  go_wp2_with fail
  refine (readint_any s n a 0 _ hs H0.out).mono ?_
  rintro e' w1 ⟨rfl, hb1⟩
  have z1 : w.heap.size ≤ w1.heap.size := hb1.size
  go_wp2
  go_loopw [28, 8, 6] (fun i o q wr => ∃ (k p : Nat) (vo : Value) (acc : List Blk), o = vo ∧ i = .int .i64 k ∧ q = .int .i64 (p : Int) ∧ k ≤ n ∧ acc.length = k ∧ p ≤ s.length ∧ wr.ownsRow w1.heap.size 91 3 vo k (acc.flatMap blkC) ∧ Hid (Left acc p (decR (n - k) (pv acc k) (s.drop p)) = (L, K, E)) ∧ Below w1.heap.size w1 wr) (fun i _ _ _ => n - (intOf i).toNat)
  case atStart => exact ⟨0, a, _, [], rfl, rfl, rfl, Nat.zero_le _, rfl, by omega, World.ownsRow_nil _ _ _ _, Lib.hid (by simpa [pv] using HLL.out), Below.refl _ _⟩
  case round =>
    obtain ⟨k, p, vo, acc, e7, rfl, rfl, hk, hacc, hp, hown, HLf, hB⟩ := hrel
    have e7' := e7.symm
    clear e7
    subst e7'
    have HB1 : Below w.heap.size w wr := hb1.trans (hB.mono z1)
    have zr : w1.heap.size ≤ wr.heap.size := hB.size
    by_cases hlt : k < n
    · obtain ⟨f, hf⟩ : ∃ f, n - k = f + 1 := ⟨n - k - 1, by omega⟩
      have hlf := HLf.out
      rw [hf] at hlf
      have i0' : (0 : Int) ≤ (p : Int) := by omega
      have i1 : (p : Int) ≤ (s.length : Int) := by omega
      have i3 : (s.drop p).take (s.length - p) = s.drop p := List.take_of_length_le (by rw [List.length_drop]; exact Nat.le_refl _)
      have hld : (s.drop p).length ≤ 1000000000 := by rw [List.length_drop]; omega
      have i4 : (k : Int) < (n : Int) := by omega
      obtain ⟨⟨x, c, e⟩, hd⟩ : ∃ q, decS (s.drop p) = q := ⟨_, rfl⟩
      have hdk := decS_ok hd
      rw [List.length_drop] at hdk
      have HD := Lib.hid hd
      by_cases he : e = 0
      case neg =>
        rw [left_err hd he] at hlf
        obtain ⟨rfl, rfl, rfl⟩ := trip hlf
        obtain ⟨rfl, rfl⟩ := hdk.2 he
        clear hd hdk hlf hown
        go_wp2_with fail
        refine (decode_any (s.drop p) zBlk 0 e _ hld HD.out).mono ?_
        rintro e' w2 ⟨rfl, hb2⟩
        have he' : (e == 0) = false := beq_eq_false_iff_ne.2 he
        go_wp2
        go_ret3
        exact ⟨_, rfl, RBlks.nil _ _, belowA, RFrom.nil _⟩
      subst he
      obtain ⟨hc1, hc2, hbx⟩ := hdk.1 rfl
      obtain ⟨m, rfl⟩ : ∃ m : Nat, c = m := ⟨c.toNat, by omega⟩
      have HF : Hid (n - (k + 1) = f) := Lib.hid (by omega)
      clear hdk hf hd
      go_wp2_with fail
      refine (decode_any (s.drop p) x m 0 _ hld HD.out).mono ?_
      rintro e' w2 ⟨rfl, hb2⟩
      have z2 : wr.heap.size ≤ w2.heap.size := hb2.size
      have hB2 : Below w1.heap.size w1 w2 := belowA
      have hown2 := own_kept hown (fun q _ cs e f hq => hb2.block q (by
        rcases Nat.lt_or_ge q wr.heap.size with h | h
        · exact h
        · rw [Array.getElem?_eq_none h] at hq; cases hq))
      clear hown hb2 hB HB1
      by_cases hkz : k = 0
      · subst hkz
        obtain rfl : acc = [] := List.length_eq_zero_iff.1 hacc
        rw [left_step HD.out (by rintro ⟨q, hq, _⟩; cases hq)] at hlf
        simp only [Int.toNat_natCast, List.drop_drop, List.nil_append] at hlf
        have HLL2 := Lib.hid hlf
        obtain ⟨va, vc, hvo, _⟩ := RBlks.of_own hown2
        simp only [List.length_nil] at hvo
        subst hvo
        clear hlf HLf
        go_wp2
        have hBW : Below w1.heap.size w1 (w2.alloc (.cells #[.int .i64 x.kind, .int .i64 x.flags, .string (B x.data)] 91)) := belowA
        have XW : (w2.alloc (.cells #[.int .i64 x.kind, .int .i64 x.flags, .string (B x.data)] 91)).heap[w2.heap.size]? = some (.cells #[.int .i64 x.kind, .int .i64 x.flags, .string (B x.data)] 91 (0, 0)) := heap_new
        have hownW := hown2.alloc (.cells #[.int .i64 x.kind, .int .i64 x.flags, .string (B x.data)] 91)
        have sW : (w2.alloc (.cells #[.int .i64 x.kind, .int .i64 x.flags, .string (B x.data)] 91)).heap.size = w2.heap.size + 1 := by simp
        generalize w2.alloc (.cells #[.int .i64 x.kind, .int .i64 x.flags, .string (B x.data)] 91) = W at *
        clear hown2
        refine wp_region_plan (fun V => True) [0, 0, 0, 0, 0, 1, 0, 0, 0, 0, 0, 0, 1, 0, 0] [0, 1, 2, 3, 4, 5, 6, 7, 8, 9, 10, 11, 12, 13, 14] (by kernel_rfl) (by kernel_rfl) ?_ ?_
        case refine_1 => exact trivial
        (iterate 4 (refine plan_held rfl (by decide) (by rfl) (fun w1 hS => by (try (have hS := hS rfl; obtain hS := hS; repeat (obtain ⟨_, hS⟩ := hS))); go_simp; rfl) ?_; simp only [Act.put, List.setIfInBounds_toArray, List.set_cons_zero, List.set_cons_succ]))
        iterate 10 (refine plan_skip rfl (by decide) (by rfl) ?_; simp only [Act.put, List.setIfInBounds_toArray, List.set_cons_zero, List.set_cons_succ])
        (iterate 1 (refine plan_held rfl (by decide) (by rfl) (fun w1 hS => by (try (have hS := hS rfl; obtain hS := hS; repeat (obtain ⟨_, hS⟩ := hS))); go_simp; rfl) ?_; simp only [Act.put, List.setIfInBounds_toArray, List.set_cons_zero, List.set_cons_succ]))
        refine plan_done ?_
        generalize Value.slice va 0 vc = vo at *
        have hownD : W.drew.ownsRow w1.heap.size 91 3 vo 0 ([].flatMap blkC) := hownW
        have XD : W.drew.heap[w2.heap.size]? = some (.cells #[.int .i64 x.kind, .int .i64 x.flags, .string (B x.data)] 91 (0, 0)) := XW
        have hBD : Below w1.heap.size w1 W.drew := bdrew hBW
        have sD : w2.heap.size < W.drew.heap.size := by show w2.heap.size < W.heap.size; omega
        clear hownW XW hBW sW
        generalize W.drew = V at *
        have cx := fun o => cellB XD o
        go_wp2_with (at_builtin; refine wpList_append_lies _ rfl _ _ _ rfl w1.heap.size 91 i0 _ 3 32 Tryz.underlying30 hin hz0 hz1 hz2 rfl (by omega) vo 0 _ rfl (hownD.alloc _) ⟨V.heap.size, 0, none⟩ 1 1 (blkC x) rfl rfl (news_one (t := 91) (by exact heap_new)) (blkC_one x) (by omega) (by simp [maxLen]) (by omega) (by first | omega | (simp; omega)) (V.heap.size + 1) (by simp) ?_; intro g cap w9 hown9 hg9 hat9 hlt9)
        have hB9 : Below w1.heap.size w1 w9 := (balloc hBD (by omega)).grown hg9 (by simp; omega) (fun q hq => (hownD.lt q hq).1)
        have HO := Lib.hid hown9
        clear hown9 hg9 hat9 hownD cx
        go_wp2
        go_roundw
        case rel => exact ⟨1, p + m, _, [x], rfl, by go_num, by go_num, by omega, rfl, by omega, by simpa using HO.out, Lib.hid (by have h := HF.out; rw [Nat.zero_add] at h; rw [h]; exact HLL2.out), hB9⟩
        case measure => simp [intOf]; omega
      · obtain ⟨j, hj⟩ : ∃ j, k = j + 1 := ⟨k - 1, by omega⟩
        obtain ⟨z, hz⟩ : ∃ z, acc[j]? = some z := ⟨_, List.getElem?_eq_getElem (by omega)⟩
        have hpk : pv acc k = some z.kind := by rw [hj]; simp [pv, hz]
        rw [hpk] at hlf
        have hwj : IntKind.i64.wrap ((k : Int) - 1) = (j : Int) := by rw [IntKind.wrap_i64]; omega
        have hj0 : (0 : Int) ≤ (j : Int) := by omega
        have hj1 : (j : Int) < (k : Int) := by omega
        have hkp : (0 : Int) < (k : Int) := by omega
        have hkp2 : 0 < k := by omega
        obtain ⟨va, vc, hvo, _, _, _, h4⟩ := RBlks.of_own hown2
        obtain ⟨gb, go, rfl, hgl, hcells⟩ := h4 (by omega)
        have dj := (hcells j z hz).1
        rw [hacc] at hvo
        subst hvo
        clear h4 hcells hz hpk
        by_cases hle : x.kind ≤ z.kind
        · rw [left_order HD.out ⟨_, rfl, hle⟩] at hlf
          obtain ⟨rfl, rfl, rfl⟩ := trip hlf
          have hle2 : decide (x.kind ≤ z.kind) = true := decide_eq_true hle
          clear hlf HLf hj
          go_wp2
          have hBW : Below w1.heap.size w1 (w2.alloc (.cells #[.int .i64 x.kind, .int .i64 x.flags, .string (B x.data)] 91)) := belowA
          have XW : (w2.alloc (.cells #[.int .i64 x.kind, .int .i64 x.flags, .string (B x.data)] 91)).heap[w2.heap.size]? = some (.cells #[.int .i64 x.kind, .int .i64 x.flags, .string (B x.data)] 91 (0, 0)) := heap_new
          have cx : (w2.alloc (.cells #[.int .i64 x.kind, .int .i64 x.flags, .string (B x.data)] 91)).cell? ⟨w2.heap.size, 0, none⟩ = some (.int .i64 x.kind) := cellB XW 0
          have dj' := (World.cell?_alloc_lt w2 (.cells #[.int .i64 x.kind, .int .i64 x.flags, .string (B x.data)] 91) _ hgl).trans dj
          generalize w2.alloc (.cells #[.int .i64 x.kind, .int .i64 x.flags, .string (B x.data)] 91) = W at *
          clear hown2 dj
          refine wp_region_plan (fun V => V.cell? ⟨w2.heap.size, 0, none⟩ = some (.int .i64 x.kind) ∧ V.cell? ⟨gb, go + j * 3, none⟩ = some (.int .i64 z.kind)) [0, 0, 0, 0, 0, 1, 0, 0, 0, 0, 0, 0, 1, 0, 0] [0, 1, 2, 3, 4, 5, 6, 7, 8, 9, 10, 11, 12, 13, 14] (by kernel_rfl) (by kernel_rfl) ?_ ?_
          case refine_1 => exact ⟨cx, dj'⟩
          (iterate 15 (refine plan_held rfl (by decide) (by rfl) (fun w1 hS => by (try (have hS := hS rfl; obtain hS := hS; repeat (obtain ⟨_, hS⟩ := hS))); go_simp; rfl) ?_; simp only [Act.put, List.setIfInBounds_toArray, List.set_cons_zero, List.set_cons_succ]))
          refine plan_done ?_
          go_wp2
          go_ret3
          exact ⟨_, rfl, RBlks.nil _ _, belowA, RFrom.nil _⟩
        · rw [left_step HD.out (by rintro ⟨q, hq, hq2⟩; injection hq with hq; omega)] at hlf
          have hle2 : decide (x.kind ≤ z.kind) = false := decide_eq_false hle
          simp only [Int.toNat_natCast, List.drop_drop] at hlf
          have HLL2 := Lib.hid hlf
          have HPV : Hid (pv (acc ++ [x]) (k + 1) = some x.kind) := Lib.hid (by simp [pv, ← hacc])
          clear hlf HLf hj
          go_wp2
          have hBW : Below w1.heap.size w1 (w2.alloc (.cells #[.int .i64 x.kind, .int .i64 x.flags, .string (B x.data)] 91)) := belowA
          have XW : (w2.alloc (.cells #[.int .i64 x.kind, .int .i64 x.flags, .string (B x.data)] 91)).heap[w2.heap.size]? = some (.cells #[.int .i64 x.kind, .int .i64 x.flags, .string (B x.data)] 91 (0, 0)) := heap_new
          have cx : (w2.alloc (.cells #[.int .i64 x.kind, .int .i64 x.flags, .string (B x.data)] 91)).cell? ⟨w2.heap.size, 0, none⟩ = some (.int .i64 x.kind) := cellB XW 0
          have dj' := (World.cell?_alloc_lt w2 (.cells #[.int .i64 x.kind, .int .i64 x.flags, .string (B x.data)] 91) _ hgl).trans dj
          have hownW := hown2.alloc (.cells #[.int .i64 x.kind, .int .i64 x.flags, .string (B x.data)] 91)
          have sW : (w2.alloc (.cells #[.int .i64 x.kind, .int .i64 x.flags, .string (B x.data)] 91)).heap.size = w2.heap.size + 1 := by simp
          generalize w2.alloc (.cells #[.int .i64 x.kind, .int .i64 x.flags, .string (B x.data)] 91) = W at *
          clear hown2 dj
          refine wp_region_plan (fun V => V.cell? ⟨w2.heap.size, 0, none⟩ = some (.int .i64 x.kind) ∧ V.cell? ⟨gb, go + j * 3, none⟩ = some (.int .i64 z.kind)) [0, 0, 0, 0, 0, 1, 0, 0, 0, 0, 0, 0, 1, 0, 0] [0, 1, 2, 3, 4, 5, 6, 7, 8, 9, 10, 11, 12, 13, 14] (by kernel_rfl) (by kernel_rfl) ?_ ?_
          case refine_1 => exact ⟨cx, dj'⟩
          (iterate 15 (refine plan_held rfl (by decide) (by rfl) (fun w1 hS => by (try (have hS := hS rfl; obtain hS := hS; repeat (obtain ⟨_, hS⟩ := hS))); go_simp; rfl) ?_; simp only [Act.put, List.setIfInBounds_toArray, List.set_cons_zero, List.set_cons_succ]))
          refine plan_done ?_
          generalize Value.slice (some ⟨gb, go, none⟩) k vc = vo at *
          have hownD : W.drew.ownsRow w1.heap.size 91 3 vo k (acc.flatMap blkC) := hownW
          have XD : W.drew.heap[w2.heap.size]? = some (.cells #[.int .i64 x.kind, .int .i64 x.flags, .string (B x.data)] 91 (0, 0)) := XW
          have hBD : Below w1.heap.size w1 W.drew := bdrew hBW
          have sD : w2.heap.size < W.drew.heap.size := by show w2.heap.size < W.heap.size; omega
          clear hownW XW hBW sW cx dj'
          generalize W.drew = V at *
          have cx := fun o => cellB XD o
          go_wp2_with (at_builtin; refine wpList_append_lies _ rfl _ _ _ rfl w1.heap.size 91 i0 _ 3 32 Tryz.underlying30 hin hz0 hz1 hz2 rfl (by omega) vo k _ rfl (hownD.alloc _) ⟨V.heap.size, 0, none⟩ 1 1 (blkC x) rfl rfl (news_one (t := 91) (by exact heap_new)) (blkC_one x) (by omega) (by simp only [maxLen]; omega) (by omega) (by first | omega | (simp; omega)) (V.heap.size + 1) (by simp) ?_; intro g cap w9 hown9 hg9 hat9 hlt9)
          have hB9 : Below w1.heap.size w1 w9 := (balloc hBD (by omega)).grown hg9 (by simp; omega) (fun q hq => (hownD.lt q hq).1)
          have HO := Lib.hid hown9
          clear hown9 hg9 hat9 hownD cx
          go_wp2
          go_roundw
          case rel => exact ⟨k + 1, p + m, _, acc ++ [x], rfl, by go_num, by go_num, by omega, by simp [hacc], by omega, by rw [List.flatMap_append]; simpa using HO.out, Lib.hid (by rw [HPV.out, HF.out]; exact HLL2.out), hB9⟩
          case measure => simp [intOf]; omega
    · obtain rfl : k = n := by omega
      have hlf := HLf.out
      rw [Nat.sub_self] at hlf
      unfold decR Left at hlf
      rw [if_neg (by simp)] at hlf
      obtain ⟨rfl, rfl, rfl⟩ := trip hlf
      clear hlf
      simp only [List.append_nil, Nat.add_zero]
      go_wp2
      go_ret3
      exact ⟨_, rfl, RBlks.of_own hown, HB1, (RFrom.of_own hown).mono z1⟩
end Go.Proofs.YtmknchdciblfjaaGreat
