/- Layer 1 (varint), the program's groups: the iterator's contract. -/
import Derived.RangeFuncNested
import Derived.RangeFuncBound
import Derived.RangeFuncCalls
import Derived.RangeFuncLeaves
import Derived.RangeFuncBox
import Derived.Shelf.Abstract
import Derived.Shelf.RegionOpen
import Derived.WalkKit
import Derived.OwnWalkIn
import Derived.TacticsInMore
import Derived.LoopNIn
import Derived.LoopIn
import Derived.Laws.BitsAllLaws
import Derived.Test.YtdnbegcebloodaaCa
import Derived.Test.YtdnbegcebloodaaKp
import Derived.RangeFuncFrom
set_option linter.unusedVariables false
namespace Go.Proofs.Ytdnbegcebloodaa
open Go.RowKit Go.Shelf
attribute [local go_sem] Oper.semAt_some

/-- the last r groups -/
def gr : Nat → Nat → List (Nat × Bool)
  | 0, _ => []
  | r + 1, m => (m / 128 ^ r % 128, decide (r = 0)) :: gr r m
theorem gl_gr : ∀ (k m : Nat), gl k m = gr (k + 1) m
  | 0, m => by simp [gl, gr]
  | k + 1, m => by rw [gl, gl_gr k m, gr, gr, gr]; simp
theorem gr_len : ∀ (r m : Nat), (gr r m).length = r
  | 0, m => rfl
  | r + 1, m => by rw [gr, List.length_cons, gr_len r m]

theorem e128 (j : Nat) : (2 : Int) ^ (7 * j) = ((128 ^ j : Nat) : Int) := by
  rw [Int.pow_mul]; simp

theorem and127 (a : Nat) (h : a < 256) : bits .and .u8 (a : Int) 127 = ((a % 128 : Nat) : Int) := by
  rw [show (127 : Int) = ((127 : Nat) : Int) from rfl, u8_and_nat a 127 h (by decide)]
  congr 1
  exact Nat.and_two_pow_sub_one_eq_mod a 7
theorem grp (m r : Nat) : bits .and .u8 ((m : Int) / 2 ^ (7 * r) % 256) 127 = ((m / 128 ^ r % 128 : Nat) : Int) := by
  rw [e128 r, show (m : Int) / ((128 ^ r : Nat) : Int) % 256 = ((m / 128 ^ r % 256 : Nat) : Int) by rw [Int.natCast_emod, Int.natCast_ediv]; rfl, and127 _ (by omega)]
  congr 1
  omega

theorem groups_in (F : Fence) (n : Nat) (h : F.fn 70) (hro : F.round = none) (m : Int) (w : World) :
    CallsIn F n Try.prog 70 #[.int .i64 m] w fun e W' => e = .returned (.func (.func 80) #[] #[.pointer (some ⟨w.heap.size, 0, none⟩)]) ∧ W' = w.alloc (.cells #[.int .i64 m] 3) := by
  refine callsIn_of_wp Try.func70 rfl h ?_ hro
  simp only [Try.ntmps70, List.size_toArray, List.length_cons, List.length_nil, Nat.reduceAdd, Nat.reduceSub, Array.replicate_succ, Array.replicate_zero, List.push_toArray, List.append_toArray, List.nil_append, List.cons_append]
  gi_wp2
  refine bodyPost_ret (results_tmp rfl _ _ _) rfl ?_
  exact ⟨rfl, rfl⟩

set_option maxRecDepth 100000 in
set_option maxHeartbeats 1000000 in
theorem groups1_in (F : Fence) (n : Nat) (h8 : F.fn 80) (hro : F.round = none) (hn : 1 ≤ n) (l Bn n₀ z m K : Nat) (hm : m ≤ 2305843009213693952) (hK : K ≤ 8) (h1 : m / 128 ^ K < 128) (h2 : K = 0 ∨ 128 ≤ m / 128 ^ (K - 1)) (hb : Bn < n₀) (hbz : Bn ≠ z) (J Jx : List (Nat × Bool) → World → Prop)
    (hY : ∀ pre x W, J pre W → pre.length < K + 1 → YieldAt F (n - 1) Try.prog l #[.int .u8 (x.1 : Int), .bool x.2] W fun e W' =>
      (e = .returned (.bool true) ∧ J (pre ++ [x]) W' ∧ KpX n₀ z W W') ∨ (e = .returned (.bool false) ∧ Jx (pre ++ [x]) W'))
    (W : World) (hBn : W.cell? ⟨Bn, 0, none⟩ = some (.int .i64 (m : Int))) (h0 : J [] W) :
    CallsIn F n Try.prog 80 #[.func (.yield l) #[] #[], .pointer (some ⟨Bn, 0, none⟩)] W fun e W' => (∃ v, e = .returned v) ∧
      ((∃ ys, ys = gr (K + 1) m ∧ J ys W') ∨ (∃ pre, True ∧ Jx pre W')) := by
  refine callsIn_of_wp Try.func80 rfl h8 ?_ hro
  simp only [Try.ntmps80, List.size_toArray, List.length_cons, List.length_nil, Nat.reduceAdd, Nat.reduceSub, Array.replicate_succ, Array.replicate_zero, List.push_toArray, List.append_toArray, List.nil_append, List.cons_append]
  gi_wp2
  gi_loopw [3] (fun i wr => ∃ j s : Nat, j ≤ 8 ∧ j ≤ K ∧ Hid (s = 7 * j) ∧ i = .int .i64 (s : Int) ∧ wr = W) (fun i _ => 100 - (intOf i).toNat)
  case atStart => exact ⟨0, 0, by omega, by omega, Lib.hid rfl, rfl, rfl⟩
  case round =>
    obtain ⟨j, s, hj, hjK, HS, rfl, rfl⟩ := hrel
    have hs56 : s ≤ 56 := by have := HS.out; omega
    gi_wp2
    case roundEnd =>
      rename_i hg
      rw [HS.out, e128 j] at hg
      have hc : 128 ≤ m / 128 ^ j := by exact_mod_cast hg
      have hl : j < K := by
        rcases Nat.lt_or_ge j K with h | h
        · exact h
        · obtain rfl : j = K := by omega
          omega
      exact ⟨⟨j + 1, s + 7, by omega, by omega, Lib.hid (by have := HS.out; omega), by congr 1, trivial⟩, by have := HS.out; simp [intOf]; omega⟩
    rename_i hg
    have hg' := hg
    rw [HS.out, e128 j] at hg'
    have hc : m / 128 ^ j < 128 := by exact_mod_cast hg'
    clear hg'
    obtain rfl : j = K := by
      rcases h2 with h | h
      · omega
      · by_cases z : j = K
        · exact z
        · have := Nat.div_le_div (Nat.le_refl m) (Nat.pow_le_pow_right (show 0 < 128 by decide) (show j ≤ K - 1 by omega)) (Nat.ne_of_gt (Nat.pow_pos (show 0 < 128 by decide)))
          omega
    clear hc
    gi_loopw [3] (fun i w1 => ∃ (r : Nat) (pre : List (Nat × Bool)), r ≤ j + 1 ∧ pre ++ gr r m = gr (j + 1) m ∧ ((r = 0 ∧ i = .int .i64 (-7)) ∨ ∃ r' t : Nat, r = r' + 1 ∧ Hid (t = 7 * r') ∧ i = .int .i64 (t : Int)) ∧ J pre w1 ∧ KpX n₀ z wr w1) (fun i _ => (intOf i + 7).toNat)
    case atStart => exact ⟨j + 1, [], by omega, rfl, .inr ⟨j, s, rfl, HS, rfl⟩, h0, KpX.refl _ _ _⟩
    case round =>
      obtain ⟨r, pre, hr, hp, (⟨rfl, rfl⟩ | ⟨r', t, rfl, HT, rfl⟩), hJ, hB⟩ := hrel
      · gi_wp2
        go_end0
        exact ⟨⟨_, rfl⟩, .inl ⟨pre, by simpa [gr] using hp, hJ⟩⟩
      · have hBn' := (hB.cell (p := ⟨Bn, 0, none⟩) hb hbz).trans hBn
        have ht56 : t ≤ 56 := by have := HT.out; omega
        gi_wp2
        have ht := HT.out
        have hg2 : ((t : Int) == 0) = decide (r' = 0) := by by_cases z : r' = 0 <;> simp [z] <;> omega
        have hg3 := grp m r'
        rw [← ht] at hg3
        rw [hg3, hg2]
        clear ht hg2 hg3
        obtain ⟨fn, tmps, assign, body, hy, hR⟩ := hY pre (m / 128 ^ r' % 128, decide (r' = 0)) _ hJ (by have := congrArg List.length hp; rw [List.length_append, gr_len, gr_len] at this; omega)
        dsimp only at hy
        rw [hy]
        gi_wp2
        refine hR.mono ?_
        rintro e W3 (⟨rfl, hJ3, hk3⟩ | ⟨rfl, hJx3⟩)
        · gi_wp2
          go_roundw
          case rel => exact ⟨r', pre ++ [_], by omega, by rw [← hp, gr]; simp, by cases r' with | zero => exact .inl ⟨rfl, by have := HT.out; congr 1; omega⟩ | succ r' => exact .inr ⟨r', t - 7, rfl, Lib.hid (by have := HT.out; omega), by have := HT.out; congr 1; omega⟩, hJ3, hB.trans hk3⟩
          case measure => simp [intOf]; omega
        · gi_wp2
          refine bodyPost_ret (results_none rfl _ _ _) rfl ?_
          exact ⟨⟨_, rfl⟩, .inr ⟨_, trivial, hJx3⟩⟩
end Go.Proofs.Ytdnbegcebloodaa
