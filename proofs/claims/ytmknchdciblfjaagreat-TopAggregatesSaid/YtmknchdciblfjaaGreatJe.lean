/- Joined by port.py: XCa XCb XCc XCd -/
import Derived.Test.YtmknchdciblfjaaGreatJd
import Derived.RangeFuncNested
import Derived.RangeFuncBound
import Derived.RangeFuncCalls
import Derived.RangeFuncLeaves
import Derived.RangeFuncBox
import Derived.Shelf.Abstract
import Derived.Shelf.RegionOpen
import Derived.WalkKit
import Derived.OwnWalkIn
import Derived.TacticsInMore
import Derived.LoopNIn
import Derived.LoopIn
import Derived.Laws.BitsAllLaws
import Derived.Test.YtmknchdciblfjaaGreatJb
import Derived.RangeFuncFrom
import Derived.Maps.AppendAt
import Derived.Test.YtmknchdciblfjaaGreatJa
import Derived.Deep.AppendLies
import Derived.Laws.OwnMore
set_option linter.unusedVariables false
set_option linter.unusedSimpArgs false
/-! XCa -/
namespace Go.Proofs.YtmknchdciblfjaaGreat
/-- the groups of a number from the k-th one down, and whether it is the last -/
def gl : Nat → Nat → List (Nat × Bool)
  | 0, m => [(m % 128, true)]
  | k + 1, m => (m / 128 ^ (k + 1) % 128, false) :: gl k m
def gby (x : Nat × Bool) : UInt8 := UInt8.ofNat (if x.2 then x.1 else 128 + x.1)
def hl : Nat → Nat → List UInt8
  | 0, _ => []
  | k + 1, m => UInt8.ofNat (128 + m / 128 ^ (k + 1) % 128) :: hl k m
theorem gl_hl : ∀ (k m : Nat), (gl k m).map gby = hl k m ++ [UInt8.ofNat (m % 128)]
  | 0, m => by simp [gl, hl, gby]
  | k + 1, m => by simp [gl, hl, gby, gl_hl k m]
theorem hl_shift : ∀ (k m : Nat), hl (k + 1) m = hl k (m / 128) ++ [UInt8.ofNat (128 + m / 128 % 128)]
  | 0, m => by simp [hl]
  | k + 1, m => by
    rw [hl, hl_shift k m, hl]
    have : m / 128 ^ (k + 1 + 1) = m / 128 / 128 ^ (k + 1) := by rw [Nat.div_div_eq_div_mul, Nat.pow_succ, Nat.mul_comm]
    rw [this]; rfl
theorem hi_hl : ∀ (f k m : Nat), k ≤ f → m / 128 ^ k < 128 → (k = 0 ∨ 128 ≤ m / 128 ^ (k - 1)) → hi f (m / 128) = hl k m
  | 0, k, m, h, h1, h2 => by
    obtain rfl : k = 0 := by omega
    simp [hi, hl]
  | f + 1, 0, m, h, h1, h2 => by
    have : m / 128 = 0 := by simp at h1; omega
    simp [hi, hl, this]
  | f + 1, k + 1, m, h, h1, h2 => by
    have h2' : 128 ≤ m / 128 ^ k := by simpa using h2
    have hp : 0 < 128 ^ k := Nat.pow_pos (by decide)
    have h3 : m / 128 ^ k ≤ m := Nat.div_le_self _ _
    have e1 : m / 128 ^ (k + 1) = m / 128 / 128 ^ k := by rw [Nat.div_div_eq_div_mul, Nat.pow_succ, Nat.mul_comm]
    rw [hi, if_neg (by omega), hl_shift, hi_hl f k (m / 128) (by omega) (by rw [← e1]; exact h1) ?_]
    cases k with
    | zero => exact .inl rfl
    | succ k =>
      right
      have : m / 128 ^ (k + 1) = m / 128 / 128 ^ k := by rw [Nat.div_div_eq_div_mul, Nat.pow_succ, Nat.mul_comm]
      rw [this] at h2'; simpa using h2'
theorem gl_intE {n : Int} {k : Nat} (h : k ≤ 10) (h1 : zz n / 128 ^ k < 128) (h2 : k = 0 ∨ 128 ≤ zz n / 128 ^ (k - 1)) : (gl k (zz n)).map gby = intE n := by
  rw [gl_hl, intE, hi_hl 10 k _ h h1 h2]
end Go.Proofs.YtmknchdciblfjaaGreat
/-! XCb -/
namespace Go.Proofs.YtmknchdciblfjaaGreat
open Go.RowKit Go.Shelf
attribute [local go_sem] Oper.semAt_some
/-- the last r groups -/
def gr : Nat → Nat → List (Nat × Bool)
  | 0, _ => []
  | r + 1, m => (m / 128 ^ r % 128, decide (r = 0)) :: gr r m
theorem gl_gr : ∀ (k m : Nat), gl k m = gr (k + 1) m
  | 0, m => by simp [gl, gr]
  | k + 1, m => by rw [gl, gl_gr k m, gr, gr, gr]; simp
theorem gr_len : ∀ (r m : Nat), (gr r m).length = r
  | 0, m => rfl
  | r + 1, m => by rw [gr, List.length_cons, gr_len r m]
theorem e128 (j : Nat) : (2 : Int) ^ (7 * j) = ((128 ^ j : Nat) : Int) := by
  rw [Int.pow_mul]; simp
theorem and127 (a : Nat) (h : a < 256) : bits .and .u8 (a : Int) 127 = ((a % 128 : Nat) : Int) := by
  rw [show (127 : Int) = ((127 : Nat) : Int) from rfl, u8_and_nat a 127 h (by decide)]
  congr 1
  exact Nat.and_two_pow_sub_one_eq_mod a 7
theorem grp (m r : Nat) : bits .and .u8 ((m : Int) / 2 ^ (7 * r) % 256) 127 = ((m / 128 ^ r % 128 : Nat) : Int) := by
  rw [e128 r, show (m : Int) / ((128 ^ r : Nat) : Int) % 256 = ((m / 128 ^ r % 256 : Nat) : Int) by rw [Int.natCast_emod, Int.natCast_ediv]; rfl, and127 _ (by omega)]
  congr 1
  omega
theorem groups_in (F : Fence) (n : Nat) (h : F.fn 141) (hro : F.round = none) (m : Int) (w : World) :
    CallsIn F n Tryz.prog 141 #[.int .i64 m] w fun e W' => e = .returned (.func (.func 198) #[] #[.pointer (some ⟨w.heap.size, 0, none⟩)]) ∧ W' = w.alloc (.cells #[.int .i64 m] 3) := by
  refine callsIn_of_wp Tryz.func141 rfl h ?_ hro
  simp only [Tryz.ntmps141, List.size_toArray, List.length_cons, List.length_nil, Nat.reduceAdd, Nat.reduceSub, Array.replicate_succ, Array.replicate_zero, List.push_toArray, List.append_toArray, List.nil_append, List.cons_append]
  gi_wp2
  refine bodyPost_ret (results_tmp rfl _ _ _) rfl ?_
  exact ⟨rfl, rfl⟩
set_option maxRecDepth 100000 in
set_option maxHeartbeats 1000000 in
theorem groups1_in (F : Fence) (n : Nat) (h8 : F.fn 198) (hro : F.round = none) (hn : 1 ≤ n) (l Bn n₀ z m K : Nat) (hm : m ≤ 2305843009213693952) (hK : K ≤ 8) (h1 : m / 128 ^ K < 128) (h2 : K = 0 ∨ 128 ≤ m / 128 ^ (K - 1)) (hb : Bn < n₀) (hbz : Bn ≠ z) (J Jx : List (Nat × Bool) → World → Prop)
    (hY : ∀ pre x W, J pre W → pre.length < K + 1 → YieldAt F (n - 1) Tryz.prog l #[.int .u8 (x.1 : Int), .bool x.2] W fun e W' =>
      (e = .returned (.bool true) ∧ J (pre ++ [x]) W' ∧ KpX n₀ z W W') ∨ (e = .returned (.bool false) ∧ Jx (pre ++ [x]) W'))
    (W : World) (hBn : W.cell? ⟨Bn, 0, none⟩ = some (.int .i64 (m : Int))) (h0 : J [] W) :
    CallsIn F n Tryz.prog 198 #[.func (.yield l) #[] #[], .pointer (some ⟨Bn, 0, none⟩)] W fun e W' => (∃ v, e = .returned v) ∧
      ((∃ ys, ys = gr (K + 1) m ∧ J ys W') ∨ (∃ pre, True ∧ Jx pre W')) := by
  refine callsIn_of_wp Tryz.func198 rfl h8 ?_ hro
  simp only [Tryz.ntmps198, List.size_toArray, List.length_cons, List.length_nil, Nat.reduceAdd, Nat.reduceSub, Array.replicate_succ, Array.replicate_zero, List.push_toArray, List.append_toArray, List.nil_append, List.cons_append]
  gi_wp2
  gi_loopw [3] (fun i wr => ∃ j s : Nat, j ≤ 8 ∧ j ≤ K ∧ Hid (s = 7 * j) ∧ i = .int .i64 (s : Int) ∧ wr = W) (fun i _ => 100 - (intOf i).toNat)
  case atStart => exact ⟨0, 0, by omega, by omega, Lib.hid rfl, rfl, rfl⟩
  case round =>
    obtain ⟨j, s, hj, hjK, HS, rfl, rfl⟩ := hrel
    have hs56 : s ≤ 56 := by have := HS.out; omega
    gi_wp2
    case roundEnd =>
      rename_i hg
      rw [HS.out, e128 j] at hg
      have hc : 128 ≤ m / 128 ^ j := by exact_mod_cast hg
      have hl : j < K := by
        rcases Nat.lt_or_ge j K with h | h
        · exact h
        · obtain rfl : j = K := by omega
          omega
      exact ⟨⟨j + 1, s + 7, by omega, by omega, Lib.hid (by have := HS.out; omega), by congr 1, trivial⟩, by have := HS.out; simp [intOf]; omega⟩
    rename_i hg
    have hg' := hg
    rw [HS.out, e128 j] at hg'
    have hc : m / 128 ^ j < 128 := by exact_mod_cast hg'
    clear hg'
    obtain rfl : j = K := by
      rcases h2 with h | h
      · omega
      · by_cases z : j = K
        · exact z
        · have := Nat.div_le_div (Nat.le_refl m) (Nat.pow_le_pow_right (show 0 < 128 by decide) (show j ≤ K - 1 by omega)) (Nat.ne_of_gt (Nat.pow_pos (show 0 < 128 by decide)))
          omega
    clear hc
    gi_loopw [3] (fun i w1 => ∃ (r : Nat) (pre : List (Nat × Bool)), r ≤ j + 1 ∧ pre ++ gr r m = gr (j + 1) m ∧ ((r = 0 ∧ i = .int .i64 (-7)) ∨ ∃ r' t : Nat, r = r' + 1 ∧ Hid (t = 7 * r') ∧ i = .int .i64 (t : Int)) ∧ J pre w1 ∧ KpX n₀ z wr w1) (fun i _ => (intOf i + 7).toNat)
    case atStart => exact ⟨j + 1, [], by omega, rfl, .inr ⟨j, s, rfl, HS, rfl⟩, h0, KpX.refl _ _ _⟩
    case round =>
      obtain ⟨r, pre, hr, hp, (⟨rfl, rfl⟩ | ⟨r', t, rfl, HT, rfl⟩), hJ, hB⟩ := hrel
      · gi_wp2
        go_end0
        exact ⟨⟨_, rfl⟩, .inl ⟨pre, by simpa [gr] using hp, hJ⟩⟩
      · have hBn' := (hB.cell (p := ⟨Bn, 0, none⟩) hb hbz).trans hBn
        have ht56 : t ≤ 56 := by have := HT.out; omega
        gi_wp2
        have ht := HT.out
        have hg2 : ((t : Int) == 0) = decide (r' = 0) := by by_cases z : r' = 0 <;> simp [z] <;> omega
        have hg3 := grp m r'
        rw [← ht] at hg3
        rw [hg3, hg2]
        clear ht hg2 hg3
        obtain ⟨fn, tmps, assign, body, hy, hR⟩ := hY pre (m / 128 ^ r' % 128, decide (r' = 0)) _ hJ (by have := congrArg List.length hp; rw [List.length_append, gr_len, gr_len] at this; omega)
        dsimp only at hy
        rw [hy]
        gi_wp2
        refine hR.mono ?_
        rintro e W3 (⟨rfl, hJ3, hk3⟩ | ⟨rfl, hJx3⟩)
        · gi_wp2
          go_roundw
          case rel => exact ⟨r', pre ++ [_], by omega, by rw [← hp, gr]; simp, by cases r' with | zero => exact .inl ⟨rfl, by have := HT.out; congr 1; omega⟩ | succ r' => exact .inr ⟨r', t - 7, rfl, Lib.hid (by have := HT.out; omega), by have := HT.out; congr 1; omega⟩, hJ3, hB.trans hk3⟩
          case measure => simp [intOf]; omega
        · gi_wp2
          refine bodyPost_ret (results_none rfl _ _ _) rfl ?_
          exact ⟨⟨_, rfl⟩, .inr ⟨_, trivial, hJx3⟩⟩
end Go.Proofs.YtmknchdciblfjaaGreat
/-! XCc -/
namespace Go.Proofs.YtmknchdciblfjaaGreat
open Go.RowKit Go.Shelf
attribute [local go_sem] Oper.semAt_some
theorem groups_stops (F : Fence) (n : Nat) (h8 : F.fn 198) (hro : F.round = none) (hn : 1 ≤ n) (Bn n₀ z m K : Nat) (hm : m ≤ 2305843009213693952) (hK : K ≤ 8) (h1 : m / 128 ^ K < 128) (h2 : K = 0 ∨ 128 ≤ m / 128 ^ (K - 1)) (w : World) (hb : Bn < n₀) (hbz : Bn ≠ z) (hbw : Bn < w.heap.size)
    (hc : w.cell? ⟨Bn, 0, none⟩ = some (.int .i64 (m : Int))) :
    SeqStopsK F n Tryz.prog 198 #[.pointer (some ⟨Bn, 0, none⟩)] (fun x : Nat × Bool => #[Value.int .u8 (x.1 : Int), .bool x.2]) (KpX n₀ z) (fun ys => ys = gr (K + 1) m) (fun _ => True) (K + 1) w := fun l J Jx W hW _ _ hY h0 =>
  groups1_in F n h8 hro hn l Bn n₀ z m K hm hK h1 h2 hb hbz J Jx hY W ((hW.cell (p := ⟨Bn, 0, none⟩) (by simp; omega)).trans hc) h0
theorem top (m : Nat) (hm : m ≤ 2305843009213693952) : ∃ K, K ≤ 8 ∧ m / 128 ^ K < 128 ∧ (K = 0 ∨ 128 ≤ m / 128 ^ (K - 1)) := by
  by_cases h0 : m < 128
  · exact ⟨0, by omega, by simpa using h0, .inl rfl⟩
  have H : ∀ k, 128 ≤ m / 128 ^ k → k ≤ 8 → ∃ K, K ≤ 8 ∧ m / 128 ^ K < 128 ∧ (K = 0 ∨ 128 ≤ m / 128 ^ (K - 1)) := by
    intro k
    generalize hd : 9 - k = d
    induction d generalizing k with
    | zero => intro h hk; omega
    | succ d ih =>
      intro h hk
      by_cases z : k = 8
      · subst z; omega
      · by_cases z2 : m / 128 ^ (k + 1) < 128
        · exact ⟨k + 1, by omega, z2, .inr (by simpa using h)⟩
        · exact ih (k + 1) (by omega) (by omega) (by omega)
  exact H 0 (by simp; omega) (by omega)
theorem inRange_any (n : Int) (w : World) (h1 : -1152921504606846976 ≤ n) (h2 : n ≤ 1152921504606846976) :
    Calls Tryz.prog 140 #[.int .i64 n] w fun e w' => e = .returned (.bool true) ∧ w' = w := by
  go_enter Tryz.func140, Tryz.ntmps140
  go_wp2
  go_ret
  exact ⟨rfl, rfl⟩
theorem zigzag_any (n : Int) (w : World) (h1 : -1152921504606846976 ≤ n) (h2 : n ≤ 1152921504606846976) :
    Calls Tryz.prog 142 #[.int .i64 n] w fun e w' => e = .returned (.int .i64 (zz n : Nat)) ∧ w' = w := by
  by_cases h : n < 0
  · have hz : ((zz n : Nat) : Int) = -2 * n - 1 := by unfold zz; rw [if_pos h]; omega
    rw [hz]
    go_enter Tryz.func142, Tryz.ntmps142
    go_wp2
    go_ret
    exact ⟨rfl, rfl⟩
  · have hz : ((zz n : Nat) : Int) = 2 * n := by unfold zz; rw [if_neg h]; omega
    rw [hz]
    go_enter Tryz.func142, Tryz.ntmps142
    go_wp2
    go_ret
    exact ⟨rfl, rfl⟩
end Go.Proofs.YtmknchdciblfjaaGreat
/-! XCd -/
namespace Go.Proofs.YtmknchdciblfjaaGreat
open Go.RowKit Go.Shelf
attribute [local go_sem] Oper.semAt_some
theorem infoU8 : (Tryz.prog.info? 5).map (fun i => (i.zero, i.size, i.bytes)) = some (some (.int .u8 0), 1, 1) := by kernel_rfl
theorem inRange_bad (n : Int) (w : World) (h : n < -1152921504606846976 ∨ 1152921504606846976 < n) :
    Calls Tryz.prog 140 #[.int .i64 n] w fun e w' => e = .returned (.bool false) ∧ w' = w := by
  by_cases h1 : n < -1152921504606846976
  · go_enter Tryz.func140, Tryz.ntmps140
    go_wp2
    go_ret
    refine ⟨?_, rfl⟩
    first | rfl | (simp; done) | (simp; omega)
  · have h2 : 1152921504606846976 < n := by omega
    go_enter Tryz.func140, Tryz.ntmps140
    go_wp2
    go_ret
    refine ⟨?_, rfl⟩
    first | rfl | (simp; done) | (simp; omega)
def cv (x : Nat × Bool) : Int := if x.2 then (x.1 : Int) else ((x.1 : Int) + 128) % 256
theorem gr_lt : ∀ (r m : Nat) (x : Nat × Bool), x ∈ gr r m → x.1 < 128
  | 0, _, _, h => by simp [gr] at h
  | r + 1, m, x, h => by
    rw [gr] at h
    rcases List.mem_cons.1 h with rfl | h
    · exact Nat.mod_lt _ (by decide)
    · exact gr_lt r m x h
theorem cv_gby {x : Nat × Bool} (h : x.1 < 128) : cv x = ((gby x).toNat : Int) := by
  unfold cv gby
  obtain ⟨a, b⟩ := x
  simp only at h
  cases b
  · simp; omega
  · simp; omega
def cvs (l : List (Nat × Bool)) : List Value := l.map fun x => .int .u8 (cv x)
theorem wpListIn_append_lies {F : Fence} {n : Nat} {P : Program} {ops : Array Oper} {rest : List Oper} {o : Oper} {a : Act} {Q : Exit → Act → World → Prop} (w : World) (hgd : o.guard = none) (s x : Operand) (t : TypeId)
    (ho : o.op = .call { callee := .builtin .append, args := #[s, x], argTypes := #[t, t] }) (hb : o.about P w a.eval = none)
    (base : Nat) (e : TypeId) (i : TypeInfo) (z : Value) (size bytes : Nat) (ht : P.underlying t = some (.slice e)) (hi : P.info? e = some i) (hz : i.zero = some z)
    (hsize : i.size = size) (hby : i.bytes = bytes) (hzs : z.cells.size = size) (hsz : 0 < size)
    (v : Value) (m : Nat) (xs : List Value) (hs : a.eval s = v) (hown : w.ownsRow base e size v m xs)
    (ad : Addr) (k c : Nat) (news : List Value) (hx : a.eval x = .slice (some ad) k c) (hl : news.length = k * size) (hnews : ∀ j u, news[j]? = some u → w.cell? (ad.add j) = some u) (h1 : ∀ u ∈ news, u.oneCell' = true)
    (hm : 0 < k) (h63 : m + k ≤ maxLen) (hbytes : (m + k) * bytes ≤ 140737488355328) (hbase : base ≤ w.heap.size) (H : Nat) (hH : w.heap.size = H)
    (h : ∀ g cap w', w'.ownsRow base e size (.slice (some ⟨g, 0, none⟩) (m + k) cap) (m + k) (xs ++ news) → w.grownBy w' v.ownBlock → (v.ownBlock = some g ∨ g = H) → g < w'.heap.size → wpListIn F n P ops Q rest (a.put o.dst (.slice (some ⟨g, 0, none⟩) (m + k) cap)) w') : wpListIn F n P ops Q (o :: rest) a w :=
  wpListIn_plain hgd fun K' hK' => wpIn_append_lies s x t ho hb base e i z size bytes ht hi hz hsize hby hzs hsz v m xs hs hown ad k c news hx hl hnews h1 hm h63 hbytes hbase H hH fun g cap w' h2 h3 h4 h5 => hK' _ _ (h g cap w' h2 h3 h4 h5)
set_option maxRecDepth 100000 in
set_option maxHeartbeats 1000000 in
theorem int_any (v : Int) (w : World) (h1 : -1152921504606846976 ≤ v) (h2 : v ≤ 1152921504606846976) :
    Calls Tryz.prog 67 #[.int .i64 v] w fun e w' => e = .returned (.tuple #[.string (B (intE v)), .int .i64 0]) ∧ Below w.heap.size w w' := by
  refine (callsIn_wide (n := 12)).1 ?_
  obtain ⟨K, hK, k1, k2⟩ := top (zz v) (zz_lt h1 h2)
  obtain ⟨i0, hi, hz0, hz1, hz2⟩ := info_parts infoU8
  refine callsIn_of_wp_marks Tryz.func67 rfl trivial ?_ rfl
  simp only [Tryz.ntmps67, List.size_toArray, List.length_cons, List.length_nil, Nat.reduceAdd, Nat.reduceSub, Array.replicate_succ, Array.replicate_zero, List.push_toArray, List.append_toArray, List.nil_append, List.cons_append]
  gi_wp2_with fail
  refine ⟨trivial, callsIn_wide.2 ((inRange_any v _ h1 h2).mono ?_)⟩
  rintro e w1 ⟨rfl, rfl⟩
  gi_wp2_with fail
  refine ⟨trivial, callsIn_wide.2 ((zigzag_any v _ h1 h2).mono ?_)⟩
  rintro e w1' ⟨rfl, rfl⟩
  gi_wp2_with fail
  refine ⟨trivial, (groups_in Fence.wide _ trivial rfl _ _).mono ?_⟩
  rintro e w2 ⟨rfl, rfl⟩
  gi_wp2
  obtain ⟨W0, hW0⟩ : ∃ W0, (w1.alloc (.cells #[.slice none 0 0] 23)).alloc (.cells #[.int .i64 ((zz v : Nat) : Int)] 3) = W0 := ⟨_, rfl⟩
  have hs0 : W0.heap.size = w1.heap.size + 2 := by rw [← hW0]; simp
  have hB0 : Below w1.heap.size w1 W0 := by rw [← hW0]; exact belowA
  have hout0 : Boxed W0 w1.heap.size 23 (.slice none 0 0) := by rw [← hW0]; exact (Boxed.new _ _ _).alloc _
  have hx1 : W0.heap[w1.heap.size + 1]? = some (.cells #[.int .i64 ((zz v : Nat) : Int)] 3 (0, 0)) := by rw [← hW0]; exact heap_new' (by simp)
  have cn : W0.cell? ⟨w1.heap.size + 1, 0, none⟩ = some (.int .i64 ((zz v : Nat) : Int)) := cellB hx1 0
  have hsz : w1.heap.size + 1 < W0.heap.size := by omega
  rw [hW0]
  clear hW0 hx1
  refine wpIn_rangeFunc_ownH rfl (by omega) (gf := 198) (lb := #[.pointer (some ⟨w1.heap.size + 1, 0, none⟩)]) rfl trivial (enters_of Tryz.func198 (by kernel_rfl) rfl)
    (groups_stops Fence.wide 11 trivial rfl (by omega) (w1.heap.size + 1) W0.heap.size w1.heap.size (zz v) K (zz_lt h1 h2) hK k1 k2 W0 hsz (by omega) hsz cn) (fun h k => h.trans k) (fun W l o o' hl _ _ _ => KpX.putObj W o' hl) (Below.refl _ _) (fun _ => rfl)
    (fun pre W => (∃ vo, Boxed W w1.heap.size 23 vo ∧ W.ownsRow W0.heap.size 5 1 vo pre.length (cvs pre)) ∧ (Below w1.heap.size w1 W ∧ W0.heap.size ≤ W.heap.size))
    (fun _ _ _ => False) ?hI (fun _ _ _ _ _ hs _ _ => hs) ?h0
    (fun x a' W => a' = { tmps := #[.int .i64 v, undef, .string { data := #[] }, .int .i64 0, .pointer (some ⟨w1.heap.size, 0, none⟩), .int .u8 (x.1 : Int), .bool x.2, .int .i64 v, .bool true, .bool false, .int .i64 v, .int .i64 ((zz v : Nat) : Int), .func (.func 198) #[] #[.pointer (some ⟨w1.heap.size + 1, 0, none⟩)], .int .u8 (x.1 : Int), .bool x.2, undef, undef, undef, undef, undef, undef, undef, undef, undef, undef], defers := [] }) ?hA ?assign ?body ?done ?stop
  case hI =>
    refine OwnFrom.and (fun s' A C row hs' hg hr' => ?_) (OwnFrom.and (ownFrom_below (Nat.le_refl _) hB0.size) (fun s' A C row hs' hg hr' => Nat.le_trans hs' hg.size))
    obtain ⟨vo, b1, b2⟩ := hs'
    exact ⟨vo, (ownC hg hr' _ _ _ _ b1).trans b1, own_kept b2 (fun q _ cs e f hq => ownC hg hr' q cs e f hq)⟩
  case h0 => exact ⟨⟨_, hout0, World.ownsRow_nil _ _ _ _⟩, hB0, Nat.le_refl _⟩
  case hA => exact fun x a' s' A C row hs' hg hr' => hs'
  case assign =>
    rintro l pre x W K' ⟨b1, hB, hW0⟩ hK'
    gi_wp2
    exact hK' _ _ (KeepsFrom.refl _ _) (KpX.refl _ _ _) ⟨b1, hB, hW0⟩ rfl
  case body =>
    rintro l pre x a' W hll ⟨q, hq⟩ ⟨⟨vo, b1, b2⟩, hB, hW0⟩ rfl hlt
    have c1 := b1.cell
    have f1 := b1.frozen
    have bl := b1.lt
    obtain ⟨y, hy⟩ : ∃ y, cv x = y := ⟨_, rfl⟩
    have HY := Lib.hid hy
    obtain ⟨g, last⟩ := x
    cases last
    all_goals
      unfold cv at hy
      simp at hy
      gi_wp2_with (gi_at_builtin; refine wpListIn_append_lies _ rfl _ _ _ rfl rfl W0.heap.size 5 i0 _ 1 1 Tryz.underlying23 hi hz0 hz1 hz2 rfl (by omega) vo pre.length _ rfl (b2.alloc _) ⟨W.heap.size, 0, none⟩ 1 1 [.int .u8 y] rfl rfl (news_one (t := 5) (by exact heap_new)) (by simp [Value.oneCell']) (by omega) (by simp only [maxLen]; omega) (by omega) (by simp; omega) (W.heap.size + 1) (by simp) ?_; intro g' cap w3 hown3 hg3 hat3 hlt3; have kp : w3.heap[w1.heap.size]? = W.heap[w1.heap.size]? := (hg3.block _ (by simp; omega) (fun e => by have := (b2.lt _ e.symm).1; omega)).trans (Below.heap_alloc _ _ _ (by omega)); have d1 : w3.heap[w1.heap.size]? = some (.cells #[vo] 23 (0, 0)) := kp.trans b1; have e1c := cellB d1 0; have e1f := frozenB d1 0; have hz3 := hg3.size; have HD := Lib.hid d1; have HO := Lib.hid hown3; have HG := Lib.hid hg3; clear d1 hown3 hg3 kp)
      simp at hz3
      refine ⟨⟨by simp; omega, fun k o hk ho hc => ?_⟩, ⟨by simp; omega, fun k hk hne => ?_⟩, ⟨_, (show Boxed w3 w1.heap.size 23 vo from HD.out).set _, ?_⟩, ?_, by simp; omega⟩
      · have hkl : k < W.heap.size := (Array.getElem?_eq_some_iff.1 ho).1
        rw [Below.heap_setCell _ _ _ _ (by show k ≠ w1.heap.size; omega), HG.out.block k (by simp; omega) (fun e => ?_), Below.heap_alloc _ _ _ (by omega), ho]
        obtain ⟨cs, hcs⟩ := own_cells b2 k e.symm
        rw [ho] at hcs
        injection hcs with hcs
        subst hcs
        cases hc
      · have hkl : k < W.heap.size := by omega
        rw [Below.heap_setCell _ _ _ _ (by show k ≠ w1.heap.size; omega), HG.out.block k (by simp; omega) (fun e => ?_), Below.heap_alloc _ _ _ (by omega)]
        have := (b2.lt k e.symm).1
        omega
      · have h := own_kept (W' := w3.setCell ⟨w1.heap.size, 0, none⟩ (.slice (some ⟨g', 0, none⟩) (pre.length + 1) cap)) HO.out (fun q hq _ _ _ _ => Below.heap_setCell _ _ _ _ (by show q ≠ w1.heap.size; omega))
        rw [List.length_append]
        have hc : ∀ z, cv z = y → cvs (pre ++ [z]) = cvs pre ++ [.int .u8 y] := fun z hz => by rw [← hz]; simp [cvs]
        rw [hc _ HY.out]
        exact h
      · exact bset ((balloc hB (by omega)).grown HG.out (by simp; omega) (fun q hq => by have := b2.lt q hq; omega)) (Nat.le_refl _)
  case done =>
    rintro D ys W hD rfl ⟨⟨vo, b1, b2⟩, hB, hW0⟩ hK'
    have c1 := b1.cell
    have hconv : (convert 23 9 vo).run Tryz.prog W = .ok (.string (B (intE v))) W := by
      have hE : intE v = (gr (K + 1) (zz v)).map gby := by rw [← gl_gr, gl_intE (by omega) k1 k2]
      rcases b2.2 with ⟨_, h0⟩ | ⟨g, cap, cur, rfl, _⟩
      · rw [gr_len] at h0; omega
      · refine conv_bytes W 23 9 5 (some ⟨g, 0, none⟩) _ cap (intE v) Tryz.underlying23 Tryz.underlying5 Tryz.underlying9 (by rw [hE]; simp) (fun ad had j hj => ?_) (fun h => by cases h)
        obtain rfl : (⟨g, 0, none⟩ : Addr) = ad := Option.some.inj had
        refine own_get b2 rfl ?_
        have hj' : j < (gr (K + 1) (zz v)).length := by rw [hE] at hj; simpa using hj
        unfold cvs
        rw [List.getElem?_map, List.getElem?_eq_getElem hj']
        simp only [hE, List.getElem_map, Option.map_some]
        rw [cv_gby (gr_lt _ _ _ (List.getElem_mem hj'))]
    gi_wp2
    refine ⟨by simp, .inl ⟨_, _, rfl, run_takeDeferred hK', ?_⟩⟩
    exact ⟨_, results_tmp2 rfl _ _ _, rfl, hB.grown (grownBy_putObj' W D _) hB.size (fun q hq => by injection hq with hq; omega)⟩
  case stop =>
    rintro D c' pre W _ _ h _
    exact h.elim
end Go.Proofs.YtmknchdciblfjaaGreat
