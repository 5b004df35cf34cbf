/- Layer 13 (bundle): the orders of ids and bundles, their lifetimes; slices.Compare, cmp.Or. -/
import Derived.Test.YthedoidpapodgaaTa
import Derived.Test.YthedoidpapodgaaJo
set_option linter.unusedVariables false
set_option linter.unusedSimpArgs false
namespace Go.Proofs.Ythedoidpapodgaa
open Go Go.RowKit
attribute [local go_sem] B_getElem B_size B_app B_extract B_get B_toList

/-- which of two integers is the less -/
def cmpI (a b : Int) : Int := if a < b then -1 else if b < a then 1 else 0
/-- which of two lists comes first -/
def cmpL : List Int → List Int → Int
  | [], [] => 0
  | [], _ :: _ => -1
  | _ :: _, [] => 1
  | a :: l, b :: m => if cmpI a b = 0 then cmpL l m else cmpI a b
def ids (b : Bun) : List Int := [b.src, b.crt, b.seq, b.off, b.tot]
/-- the first number other than 0 -/
def orL : List Int → Int
  | [] => 0
  | a :: l => if a = 0 then orL l else a
theorem cmpL_drop {l m : List Int} {k : Nat} {x y : Int} (hx : l[k]? = some x) (hy : m[k]? = some y) : cmpL (l.drop k) (m.drop k) = if cmpI x y = 0 then cmpL (l.drop (k + 1)) (m.drop (k + 1)) else cmpI x y := by
  obtain ⟨h1, e1⟩ := List.getElem?_eq_some_iff.1 hx
  obtain ⟨h2, e2⟩ := List.getElem?_eq_some_iff.1 hy
  rw [List.drop_eq_getElem_cons h1, List.drop_eq_getElem_cons h2, e1, e2]; rfl
theorem cmpI_zero {a b : Int} : cmpI a b = 0 ↔ a = b := by unfold cmpI; split <;> (try split) <;> omega

theorem RInts.lit {w : World} {N g : Nat} {t : TypeId} {l : List Int} (h : w.heap[g]? = some (.cells (ints l).toArray t (0, 0))) (hg : g < N) (hl : l.length ≤ 1000) : RInts w N (.slice (some ⟨g, 0, none⟩) l.length l.length) l := by
  refine ⟨some ⟨g, 0, none⟩, l.length, rfl, Nat.le_refl _, by unfold maxLen; omega, (fun h => by cases h), fun _ => ⟨g, 0, rfl, hg, fun i x hx => ?_⟩⟩
  rw [Nat.zero_add, cellB h i]
  simp [ints, hx]

set_option maxHeartbeats 400000 in
theorem isNaN_any (n : Int) (w : World) : Calls Try.prog 85 #[.int .i64 n] w fun e w' => e = .returned (.bool false) ∧ w = w' := by
  have h : (n != n) = false := by simp
  go_enter Try.func85, Try.ntmps85
  go_wp2
  go_ret
  exact ⟨rfl, rfl⟩
set_option maxHeartbeats 400000 in
theorem ccompare_any (a b : Int) (w : World) : Calls Try.prog 64 #[.int .i64 a, .int .i64 b] w fun e w' => e = .returned (.int .i64 (cmpI a b)) ∧ w = w' := by
  obtain ⟨r, hr⟩ : ∃ r, cmpI a b = r := ⟨_, rfl⟩
  have HE := Lib.hid hr
  rw [hr]
  clear hr
  go_enter Try.func64, Try.ntmps64
  go_wp2_with fail
  refine (isNaN_any a _).mono ?_
  rintro e w1 ⟨rfl, rfl⟩
  go_wp2_with fail
  refine (isNaN_any b _).mono ?_
  rintro e w1 ⟨rfl, rfl⟩
  go_wp2
  all_goals
    go_ret
    refine ⟨ret_int ?_, rfl⟩
    rw [← HE.out]
    unfold cmpI
    (try simp only [Bool.not_eq_true', Bool.not_eq_false', decide_eq_true_eq, decide_eq_false_iff_not, beq_iff_eq, beq_eq_false_iff_ne, bne_iff_ne, bne_eq_false_iff_eq, ne_eq, Bool.and_eq_true, Bool.or_eq_true, Bool.and_eq_false_imp, Bool.or_eq_false_iff] at *)
    repeat' (first | omega | split)

set_option maxHeartbeats 1000000 in
theorem compareL_any (l m : List Int) (u v : Value) (w : World) (h : RInts w w.heap.size u l) (k : RInts w w.heap.size v m) :
    Calls Try.prog 84 #[u, v] w fun e w' => e = .returned (.int .i64 (cmpL l m)) ∧ w = w' := by
  obtain ⟨a, c, rfl, h1, h2, h3, h4⟩ := h
  obtain ⟨a', c', rfl, k1, k2, k3, k4⟩ := k
  unfold maxLen at h2 k2
  have hlen : l.length ≤ 9223372036854775807 := by omega
  have hlen2 : m.length ≤ 9223372036854775807 := by omega
  have H4 := Lib.hid h4
  have K4 := Lib.hid k4
  obtain ⟨r, hr⟩ : ∃ r, cmpL l m = r := ⟨_, rfl⟩
  have HE := Lib.hid hr
  rw [hr]
  clear h3 h4 k3 k4 hr
  go_enter Try.func84, Try.ntmps84
  go_wp2
  go_loopw [11] (fun i wr => ∃ k : Nat, k ≤ l.length ∧ k ≤ m.length ∧ i = .int .i64 k ∧ Hid (cmpL (l.drop k) (m.drop k) = r) ∧ wr = w) (fun i _ => l.length - (intOf i).toNat)
  case atStart => exact ⟨0, Nat.zero_le _, Nat.zero_le _, rfl, Lib.hid (by simpa using HE.out), rfl⟩
  case round =>
    obtain ⟨k, hk, hk2, rfl, HF, rfl⟩ := hrel
    have k0 : (0 : Int) ≤ (k : Int) := by omega
    by_cases hlt : k < l.length
    · obtain ⟨bb, o, rfl, hbn, hcell⟩ := H4.out (by omega)
      obtain ⟨x, hx⟩ : ∃ x, l[k]? = some x := ⟨_, List.getElem?_eq_getElem hlt⟩
      have c1 := hcell k x hx
      have q1 : (k : Int) < (l.length : Int) := by omega
      by_cases hl2 : k < m.length
      · obtain ⟨bb2, o2, rfl, hbn2, hcell2⟩ := K4.out (by omega)
        obtain ⟨y, hy⟩ : ∃ y, m[k]? = some y := ⟨_, List.getElem?_eq_getElem hl2⟩
        have c2 := hcell2 k y hy
        have q2 : (k : Int) < (m.length : Int) := by omega
        have q2' : ¬ (m.length : Int) ≤ (k : Int) := by omega
        have hst := cmpL_drop hx hy
        rw [HF.out] at hst
        clear hx hy hcell hcell2
        by_cases hz : cmpI x y = 0
        · rw [if_pos hz] at hst
          have HS := Lib.hid hst
          have HZ := Lib.hid hz
          clear hst hz
          go_wp2_with fail
          refine (ccompare_any x y _).mono ?_
          rw [HZ.out]
          rintro e w1 ⟨rfl, rfl⟩
          go_wp2
          go_roundw
          case rel => exact ⟨k + 1, by omega, by omega, by go_num, Lib.hid HS.out.symm, trivial⟩
          case measure => simp [intOf]; omega
        · rw [if_neg hz] at hst
          have HS := Lib.hid hst
          obtain ⟨q, hq⟩ : ∃ q, cmpI x y = q := ⟨_, rfl⟩
          rw [hq] at hz
          have hz' : (q != 0) = true := by rw [bne_iff_ne]; exact hz
          have HQ := Lib.hid hq
          clear hst hz hq
          go_wp2_with fail
          refine (ccompare_any x y _).mono ?_
          rw [HQ.out]
          rintro e w1 ⟨rfl, rfl⟩
          go_wp2
          go_ret
          exact ⟨ret_int (by rw [HS.out, HQ.out]), rfl⟩
      · obtain rfl : k = m.length := by omega
        have q2' : (m.length : Int) ≤ (m.length : Int) := by omega
        have HG : Hid (r = 1) := Lib.hid (by
          rw [← HF.out, List.drop_eq_getElem_cons hlt, List.drop_eq_nil_of_le (Nat.le_refl _)]; rfl)
        clear hx hcell
        go_wp2
        go_ret
        exact ⟨ret_int HG.out.symm, rfl⟩
    · obtain rfl : k = l.length := by omega
      by_cases hl2 : l.length < m.length
      · have q2 : (l.length : Int) < (m.length : Int) := by omega
        have HG : Hid (r = -1) := Lib.hid (by
          rw [← HF.out, List.drop_eq_getElem_cons hl2, List.drop_eq_nil_of_le (Nat.le_refl _)]; rfl)
        go_wp2
        go_ret
        exact ⟨ret_int HG.out.symm, rfl⟩
      · have q2 : ¬ (l.length : Int) < (m.length : Int) := by omega
        have HG : Hid (r = 0) := Lib.hid (by
          rw [← HF.out, List.drop_eq_nil_of_le (Nat.le_refl _), List.drop_eq_nil_of_le (by omega)]; rfl)
        go_wp2
        go_ret
        exact ⟨ret_int HG.out.symm, rfl⟩

set_option maxHeartbeats 1000000 in
theorem or_any (l : List Int) (u : Value) (w : World) (h : RInts w w.heap.size u l) :
    Calls Try.prog 63 #[u] w fun e w' => e = .returned (.int .i64 (orL l)) ∧ w = w' := by
  obtain ⟨a, c, rfl, h1, h2, h3, h4⟩ := h
  unfold maxLen at h2
  have hlen : l.length ≤ 9223372036854775807 := by omega
  have H4 := Lib.hid h4
  obtain ⟨r, hr⟩ : ∃ r, orL l = r := ⟨_, rfl⟩
  have HE := Lib.hid hr
  rw [hr]
  clear h3 h4 hr
  go_enter Try.func63, Try.ntmps63
  go_wp2
  go_loopw [8] (fun i wr => ∃ k : Nat, k ≤ l.length ∧ i = .int .i64 k ∧ Hid (orL (l.drop k) = r) ∧ wr = w) (fun i _ => l.length - (intOf i).toNat)
  case atStart => exact ⟨0, Nat.zero_le _, rfl, Lib.hid (by simpa using HE.out), rfl⟩
  case round =>
    obtain ⟨k, hk, rfl, HF, rfl⟩ := hrel
    have k0 : (0 : Int) ≤ (k : Int) := by omega
    by_cases hlt : k < l.length
    · obtain ⟨bb, o, rfl, hbn, hcell⟩ := H4.out (by omega)
      obtain ⟨x, hx⟩ : ∃ x, l[k]? = some x := ⟨_, List.getElem?_eq_getElem hlt⟩
      have c1 := hcell k x hx
      have q1 : (k : Int) < (l.length : Int) := by omega
      have hst : orL (l.drop k) = if x = 0 then orL (l.drop (k + 1)) else x := by
        obtain ⟨h1, e1⟩ := List.getElem?_eq_some_iff.1 hx
        rw [List.drop_eq_getElem_cons h1, e1]; rfl
      rw [HF.out] at hst
      clear hx hcell
      by_cases hz : x = 0
      · rw [if_pos hz] at hst
        have HS := Lib.hid hst
        have hz' : (x != 0) = false := by simpa using hz
        clear hst hz
        go_wp2
        go_roundw
        case rel => exact ⟨k + 1, by omega, by go_num, Lib.hid HS.out.symm, trivial⟩
        case measure => simp [intOf]; omega
      · rw [if_neg hz] at hst
        have HS := Lib.hid hst
        have hz' : (x != 0) = true := by rw [bne_iff_ne]; exact hz
        clear hst hz
        go_wp2
        go_ret
        exact ⟨ret_int HS.out.symm, rfl⟩
    · obtain rfl : k = l.length := by omega
      have HG : Hid (r = 0) := Lib.hid (by rw [← HF.out, List.drop_eq_nil_of_le (Nat.le_refl _)]; rfl)
      go_wp2
      go_ret
      exact ⟨ret_int HG.out.symm, rfl⟩

/-! ### Ids -/
def idV (s c q o t : Int) : Value := .agg #[.int .i64 s, .int .i64 c, .int .i64 q, .int .i64 o, .int .i64 t]
set_option maxHeartbeats 1000000 in
theorem compareIds_any (s c q o t s' c' q' o' t' : Int) (w : World) :
    Calls Try.prog 62 #[idV s c q o t, idV s' c' q' o' t'] w fun e w' => e = .returned (.int .i64 (cmpL [s, c, q, o, t] [s', c', q', o', t'])) ∧ Below w.heap.size w w' := by
  unfold idV
  go_enter Try.func62, Try.ntmps62
  go_wp2_with fail
  refine (compareL_any [s, c, q, o, t] [s', c', q', o', t'] _ _ _ (RInts.lit (l := [s, c, q, o, t]) (t := 3) ?_ ?_ (by simp)) (RInts.lit (l := [s', c', q', o', t']) (t := 3) ?_ ?_ (by simp))).mono ?_
  · exact (by repeat (first | exact heap_new' (by first | rfl | (simp; done)) | refine (Below.heap_alloc _ _ _ (by first | (simp; done) | (simp; omega))).trans ?_))
  · simp
  · exact (by repeat (first | exact heap_new' (by first | rfl | (simp; done)) | refine (Below.heap_alloc _ _ _ (by first | (simp; done) | (simp; omega))).trans ?_))
  · simp
  rintro e w1 ⟨rfl, rfl⟩
  go_wp2
  go_ret
  exact ⟨rfl, (by repeat' (first | with_reducible (first | refine bset ?_ ?_ | exact Below.refl _ _ | assumption | refine bdrewN ?_ _ | refine bdrew ?_ | refine balloc0 ?_ | refine balloc ?_ ?_ | (apply btrans0; rotate_left; assumption) | (apply btrans; rotate_left; assumption)) | exact Below.refl _ _ | assumption | (apply btrans0; rotate_left; assumption) | (apply btrans; rotate_left; assumption) | (simp; done) | omega | (simp; omega)))⟩
set_option maxHeartbeats 1000000 in
theorem less_any (s c q o t s' c' q' o' t' : Int) (w : World) :
    Calls Try.prog 22 #[idV s c q o t, idV s' c' q' o' t'] w fun e w' => e = .returned (.bool (decide (cmpL [s, c, q, o, t] [s', c', q', o', t'] < 0))) ∧ Below w.heap.size w w' := by
  obtain ⟨r, hr⟩ : ∃ r, cmpL [s, c, q, o, t] [s', c', q', o', t'] = r := ⟨_, rfl⟩
  have HE := Lib.hid hr
  rw [hr]
  clear hr
  unfold idV
  go_enter Try.func22, Try.ntmps22
  go_wp2_with fail
  refine (compareIds_any s c q o t s' c' q' o' t' _).mono ?_
  rw [HE.out]
  rintro e w1 ⟨rfl, hb1⟩
  go_wp2
  go_ret
  exact ⟨rfl, (by repeat' (first | with_reducible (first | refine bset ?_ ?_ | exact Below.refl _ _ | assumption | refine bdrewN ?_ _ | refine bdrew ?_ | refine balloc0 ?_ | refine balloc ?_ ?_ | (apply btrans0; rotate_left; assumption) | (apply btrans; rotate_left; assumption)) | exact Below.refl _ _ | assumption | (apply btrans0; rotate_left; assumption) | (apply btrans; rotate_left; assumption) | (simp; done) | omega | (simp; omega)))⟩
set_option maxHeartbeats 1000000 in
theorem parent_any (s c q o t : Int) (w : World) :
    Calls Try.prog 24 #[idV s c q o t] w fun e w' => e = .returned (idV s c q 0 0) ∧ Below w.heap.size w w' := by
  unfold idV
  go_enter Try.func24, Try.ntmps24
  go_wp2
  refine bodyPost_ret (v := .agg #[.int .i64 s, .int .i64 c, .int .i64 q, .int .i64 0, .int .i64 0]) (by simp [results, Try.results24, go_sem, World.cell?_setCell_same']) rfl ?_
  exact ⟨rfl, (by repeat' (first | with_reducible (first | refine bset ?_ ?_ | exact Below.refl _ _ | assumption | refine bdrewN ?_ _ | refine bdrew ?_ | refine balloc0 ?_ | refine balloc ?_ ?_ | (apply btrans0; rotate_left; assumption) | (apply btrans; rotate_left; assumption)) | exact Below.refl _ _ | assumption | (apply btrans0; rotate_left; assumption) | (apply btrans; rotate_left; assumption) | (simp; done) | omega | (simp; omega)))⟩
set_option maxHeartbeats 1000000 in
theorem rparent_any (s c q o t : Int) (w : World) :
    Calls Try.prog 25 #[idV s c q o t] w fun e w' => e = .returned (idV s c q 0 0) ∧ Below w.heap.size w w' := by
  unfold idV
  go_enter Try.func25, Try.ntmps25
  go_wp2
  refine bodyPost_ret (v := .agg #[.int .i64 s, .int .i64 c, .int .i64 q, .int .i64 0, .int .i64 0]) (by simp [results, Try.results25, go_sem, World.cell?_setCell_same']) rfl ?_
  exact ⟨rfl, (by repeat' (first | with_reducible (first | refine bset ?_ ?_ | exact Below.refl _ _ | assumption | refine bdrewN ?_ _ | refine bdrew ?_ | refine balloc0 ?_ | refine balloc ?_ ?_ | (apply btrans0; rotate_left; assumption) | (apply btrans; rotate_left; assumption)) | exact Below.refl _ _ | assumption | (apply btrans0; rotate_left; assumption) | (apply btrans; rotate_left; assumption) | (simp; done) | omega | (simp; omega)))⟩
set_option maxRecDepth 100000 in
set_option maxHeartbeats 1000000 in
theorem rless_any (s c q o t s' c' q' o' t' : Int) (w : World) :
    Calls Try.prog 23 #[idV s c q o t, idV s' c' q' o' t'] w fun e w' => e = .returned (.bool (decide (cmpL [s, c, q, o, t] [s', c', q', o', t'] < 0))) ∧ Below w.heap.size w w' := by
  obtain ⟨r, hr⟩ : ∃ r, cmpL [s, c, q, o, t] [s', c', q', o', t'] = r := ⟨_, rfl⟩
  have HE := Lib.hid hr
  rw [hr]
  clear hr
  unfold idV
  go_enter Try.func23, Try.ntmps23
  go_wp2
  have hB0 : Below w.heap.size w ((((w.alloc (.cells #[.int .i64 s, .int .i64 c, .int .i64 q, .int .i64 o, .int .i64 t] 23)).alloc (.cells #[.int .i64 s', .int .i64 c', .int .i64 q', .int .i64 o', .int .i64 t'] 23)).alloc (.cells #[.int .i64 s, .int .i64 c, .int .i64 q, .int .i64 o, .int .i64 t] 3)).alloc (.cells #[.int .i64 s', .int .i64 c', .int .i64 q', .int .i64 o', .int .i64 t'] 3)) := (by repeat' (first | with_reducible (first | refine bset ?_ ?_ | exact Below.refl _ _ | assumption | refine bdrewN ?_ _ | refine bdrew ?_ | refine balloc0 ?_ | refine balloc ?_ ?_ | (apply btrans0; rotate_left; assumption) | (apply btrans; rotate_left; assumption)) | exact Below.refl _ _ | assumption | (apply btrans0; rotate_left; assumption) | (apply btrans; rotate_left; assumption) | (simp; done) | omega | (simp; omega)))
  have X1 : ((((w.alloc (.cells #[.int .i64 s, .int .i64 c, .int .i64 q, .int .i64 o, .int .i64 t] 23)).alloc (.cells #[.int .i64 s', .int .i64 c', .int .i64 q', .int .i64 o', .int .i64 t'] 23)).alloc (.cells #[.int .i64 s, .int .i64 c, .int .i64 q, .int .i64 o, .int .i64 t] 3)).alloc (.cells #[.int .i64 s', .int .i64 c', .int .i64 q', .int .i64 o', .int .i64 t'] 3)).heap[w.heap.size + 1 + 1]? = some (.cells #[.int .i64 s, .int .i64 c, .int .i64 q, .int .i64 o, .int .i64 t] 3 (0, 0)) := (by repeat (first | exact heap_new' (by first | rfl | (simp; done)) | refine (Below.heap_alloc _ _ _ (by first | (simp; done) | (simp; omega))).trans ?_))
  have X2 : ((((w.alloc (.cells #[.int .i64 s, .int .i64 c, .int .i64 q, .int .i64 o, .int .i64 t] 23)).alloc (.cells #[.int .i64 s', .int .i64 c', .int .i64 q', .int .i64 o', .int .i64 t'] 23)).alloc (.cells #[.int .i64 s, .int .i64 c, .int .i64 q, .int .i64 o, .int .i64 t] 3)).alloc (.cells #[.int .i64 s', .int .i64 c', .int .i64 q', .int .i64 o', .int .i64 t'] 3)).heap[w.heap.size + 1 + 1 + 1]? = some (.cells #[.int .i64 s', .int .i64 c', .int .i64 q', .int .i64 o', .int .i64 t'] 3 (0, 0)) := (by repeat (first | exact heap_new' (by first | rfl | (simp; done)) | refine (Below.heap_alloc _ _ _ (by first | (simp; done) | (simp; omega))).trans ?_))
  generalize ((((w.alloc (.cells #[.int .i64 s, .int .i64 c, .int .i64 q, .int .i64 o, .int .i64 t] 23)).alloc (.cells #[.int .i64 s', .int .i64 c', .int .i64 q', .int .i64 o', .int .i64 t'] 23)).alloc (.cells #[.int .i64 s, .int .i64 c, .int .i64 q, .int .i64 o, .int .i64 t] 3)).alloc (.cells #[.int .i64 s', .int .i64 c', .int .i64 q', .int .i64 o', .int .i64 t'] 3)) = W at *
  have HX1 := Lib.hid X1
  have HX2 := Lib.hid X2
  clear X1 X2
  go_loopw [7] (fun i wr => ∃ k : Nat, k ≤ 5 ∧ i = .int .i64 k ∧ Hid (cmpL ([s, c, q, o, t].drop k) ([s', c', q', o', t'].drop k) = r) ∧ wr.heap = W.heap ∧ Below w.heap.size w wr) (fun i _ => 5 - (intOf i).toNat)
  case atStart => exact ⟨0, by omega, rfl, Lib.hid (by simpa using HE.out), rfl, hB0⟩
  case round =>
    obtain ⟨k, hk, rfl, HF, hheap, hB⟩ := hrel
    have HH := Lib.hid hheap
    clear hheap
    by_cases hlt : k < 5
    · obtain ⟨x, hx⟩ : ∃ x, [s, c, q, o, t][k]? = some x := ⟨_, List.getElem?_eq_getElem (by simpa using hlt)⟩
      obtain ⟨y, hy⟩ : ∃ y, [s', c', q', o', t'][k]? = some y := ⟨_, List.getElem?_eq_getElem (by simpa using hlt)⟩
      have c1 : wr.cell? ⟨w.heap.size + 1 + 1, k, none⟩ = some (.int .i64 x) := by
        have h := cellB (w := wr) (g := w.heap.size + 1 + 1) (by rw [HH.out]; exact HX1.out) k
        rw [h]
        show (ints [s, c, q, o, t]).toArray[k]? = _
        unfold ints
        rw [List.getElem?_toArray, List.getElem?_map, hx]; rfl
      have c2 : wr.cell? ⟨w.heap.size + 1 + 1 + 1, k, none⟩ = some (.int .i64 y) := by
        have h := cellB (w := wr) (g := w.heap.size + 1 + 1 + 1) (by rw [HH.out]; exact HX2.out) k
        rw [h]
        show (ints [s', c', q', o', t']).toArray[k]? = _
        unfold ints
        rw [List.getElem?_toArray, List.getElem?_map, hy]; rfl
      have k0 : (0 : Int) ≤ (k : Int) := by omega
      have k5 : (k : Int) < 5 := by omega
      have hst := cmpL_drop hx hy
      rw [HF.out] at hst
      clear hx hy
      by_cases hz : x = y
      · rw [if_pos (cmpI_zero.2 hz)] at hst
        have HS := Lib.hid hst
        have hz' : (x != y) = false := by simpa using hz
        clear hst hz
        go_wp2
        refine wp_region_plan (fun V => V.cell? ⟨w.heap.size + 1 + 1, k, none⟩ = some (.int .i64 x) ∧ V.cell? ⟨w.heap.size + 1 + 1 + 1, k, none⟩ = some (.int .i64 y)) [0, 0, 0, 1, 0, 0, 0, 1, 0] [0, 1, 2, 3, 4, 5, 6, 7, 8] (by kernel_rfl) (by kernel_rfl) ?_ ?_
        case refine_1 => exact ⟨c1, c2⟩
        (iterate 9 (refine plan_held rfl (by decide) (by rfl) (fun w1 hS => by (try (have hS := hS rfl; obtain hS := hS; repeat (obtain ⟨_, hS⟩ := hS))); go_simp; rfl) ?_; simp only [Act.put, List.setIfInBounds_toArray, List.set_cons_zero, List.set_cons_succ]))
        refine plan_done ?_
        go_wp2
        go_roundw
        case rel => exact ⟨k + 1, by omega, by go_num, Lib.hid HS.out.symm, HH.out, (by repeat' (first | with_reducible (first | refine bset ?_ ?_ | exact Below.refl _ _ | assumption | refine bdrewN ?_ _ | refine bdrew ?_ | refine balloc0 ?_ | refine balloc ?_ ?_ | (apply btrans0; rotate_left; assumption) | (apply btrans; rotate_left; assumption)) | exact Below.refl _ _ | assumption | (apply btrans0; rotate_left; assumption) | (apply btrans; rotate_left; assumption) | (simp; done) | omega | (simp; omega)))⟩
        case measure => simp [intOf]; omega
      · rw [if_neg (fun h => hz (cmpI_zero.1 h))] at hst
        have HS := Lib.hid hst
        have hz' : (x != y) = true := by rw [bne_iff_ne]; exact hz
        have HZ := Lib.hid hz
        clear hst hz
        go_wp2
        refine wp_region_plan (fun V => V.cell? ⟨w.heap.size + 1 + 1, k, none⟩ = some (.int .i64 x) ∧ V.cell? ⟨w.heap.size + 1 + 1 + 1, k, none⟩ = some (.int .i64 y)) [0, 0, 0, 1, 0, 0, 0, 1, 0] [0, 1, 2, 3, 4, 5, 6, 7, 8] (by kernel_rfl) (by kernel_rfl) ?_ ?_
        case refine_1 => exact ⟨c1, c2⟩
        (iterate 9 (refine plan_held rfl (by decide) (by rfl) (fun w1 hS => by (try (have hS := hS rfl; obtain hS := hS; repeat (obtain ⟨_, hS⟩ := hS))); go_simp; rfl) ?_; simp only [Act.put, List.setIfInBounds_toArray, List.set_cons_zero, List.set_cons_succ]))
        refine plan_done ?_
        go_wp2
        refine wp_region_plan (fun V => V.cell? ⟨w.heap.size + 1 + 1, k, none⟩ = some (.int .i64 x) ∧ V.cell? ⟨w.heap.size + 1 + 1 + 1, k, none⟩ = some (.int .i64 y)) [0, 0, 0, 1, 0, 0, 0, 1, 0, 0] [0, 1, 2, 3, 4, 5, 6, 7, 8, 9] (by kernel_rfl) (by kernel_rfl) ?_ ?_
        case refine_1 => exact ⟨c1, c2⟩
        (iterate 10 (refine plan_held rfl (by decide) (by rfl) (fun w1 hS => by (try (have hS := hS rfl; obtain hS := hS; repeat (obtain ⟨_, hS⟩ := hS))); go_simp; rfl) ?_; simp only [Act.put, List.setIfInBounds_toArray, List.set_cons_zero, List.set_cons_succ]))
        refine plan_done ?_
        go_wp2
        go_ret
        refine ⟨ret_bool ?_, (by repeat' (first | with_reducible (first | refine bset ?_ ?_ | exact Below.refl _ _ | assumption | refine bdrewN ?_ _ | refine bdrew ?_ | refine balloc0 ?_ | refine balloc ?_ ?_ | (apply btrans0; rotate_left; assumption) | (apply btrans; rotate_left; assumption)) | exact Below.refl _ _ | assumption | (apply btrans0; rotate_left; assumption) | (apply btrans; rotate_left; assumption) | (simp; done) | omega | (simp; omega)))⟩
        rw [HS.out]
        have := HZ.out
        unfold cmpI
        split <;> (try split) <;> simp <;> omega
    · obtain rfl : k = 5 := by omega
      have HG : Hid (r = 0) := Lib.hid (by rw [← HF.out]; rfl)
      go_wp2
      go_ret
      exact ⟨ret_bool (by rw [HG.out]; rfl), (by repeat' (first | with_reducible (first | refine bset ?_ ?_ | exact Below.refl _ _ | assumption | refine bdrewN ?_ _ | refine bdrew ?_ | refine balloc0 ?_ | refine balloc ?_ ?_ | (apply btrans0; rotate_left; assumption) | (apply btrans; rotate_left; assumption)) | exact Below.refl _ _ | assumption | (apply btrans0; rotate_left; assumption) | (apply btrans; rotate_left; assumption) | (simp; done) | omega | (simp; omega)))⟩
end Go.Proofs.Ythedoidpapodgaa
