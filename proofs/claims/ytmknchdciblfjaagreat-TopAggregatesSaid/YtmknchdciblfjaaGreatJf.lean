/- Joined by port.py: XDa XDb XDc XDd -/
import Derived.Laws.BitsAllLaws
import Derived.Test.YtmknchdciblfjaaGreatJa
import Derived.Test.YtmknchdciblfjaaGreatJd
import Derived.Test.YtmknchdciblfjaaGreatProg
import Derived.Test.YtmknchdciblfjaaGreatJb
import Derived.RangeFuncNested
import Derived.RangeFuncBound
import Derived.RangeFuncCalls
import Derived.RangeFuncLeaves
import Derived.RangeFuncBox
import Derived.RangeFuncFrom
import Derived.Shelf.Abstract
import Derived.Shelf.RegionOpen
import Derived.WalkKit
import Derived.OwnWalkIn
import Derived.TacticsInMore
import Derived.LoopNIn
import Derived.LoopIn
import Derived.Deep.WholeRow
import Derived.Test.YtmknchdciblfjaaGreatJe
set_option linter.unusedVariables false
set_option linter.unusedSimpArgs false
/-! XDa -/
namespace Go.Proofs.YtmknchdciblfjaaGreat
open Go Go.RowKit
/-- one step of the checksum -/
def stp (r : Nat) : Nat := if r % 2 = 1 then (r / 2) ^^^ 2197175160 else r / 2
def stps : Nat → Nat → Nat
  | 0, r => r
  | k + 1, r => stps k (stp r)
theorem stp_lt {r : Nat} (h : r < 4294967296) : stp r < 4294967296 := by
  unfold stp
  split
  · exact Nat.xor_lt_two_pow (n := 32) (by omega) (by omega)
  · omega
theorem stps_lt : ∀ (k : Nat) {r : Nat}, r < 4294967296 → stps k r < 4294967296
  | 0, _, h => h
  | k + 1, _, h => stps_lt k (stp_lt h)
theorem stps_succ (k r : Nat) : stps (k + 1) r = stp (stps k r) := by
  induction k generalizing r with
  | zero => rfl
  | succ k ih => exact ih (stp r)
set_option maxHeartbeats 1000000 in
theorem step_any (r : Nat) (w : World) (h : r < 4294967296) :
    Calls Tryz.prog 287 #[.int .u32 (r : Int)] w fun e w' => e = .returned (.int .u32 (stps 8 r : Nat)) ∧ w' = w := by
  go_enter Tryz.func287, Tryz.ntmps287
  go_wp2
  go_loopw [3, 0] (fun i s wr => ∃ (k q : Nat), k ≤ 8 ∧ i = .int .i64 k ∧ s = .int .u32 (q : Nat) ∧ Hid (q = stps k r) ∧ q < 4294967296 ∧ wr = w) (fun i _ _ => 8 - (intOf i).toNat)
  case atStart => exact ⟨0, r, by omega, rfl, rfl, Lib.hid rfl, h, rfl⟩
  case round =>
    obtain ⟨k, q, hk, rfl, rfl, HQ, hq, rfl⟩ := hrel
    by_cases hlt : k < 8
    · by_cases ho : q % 2 = 1
      · have ho' : ((q : Int) % 2 == 1) = true := beq_iff_eq.2 (by omega)
        have hx : bits .xor .u32 ((q : Int) / 2) 2197175160 = ((q / 2 ^^^ 2197175160 : Nat) : Int) := by
          have := u32_xor_nat (q / 2) 2197175160 (by omega) (by omega)
          simpa using this
        have hx' : bits .xor .u32 ((q / 2 : Nat) : Int) 2197175160 = ((q / 2 ^^^ 2197175160 : Nat) : Int) := by
          have := u32_xor_nat (q / 2) 2197175160 (by omega) (by omega)
          simpa using this
        have hq2 : q / 2 ^^^ 2197175160 < 4294967296 := Nat.xor_lt_two_pow (n := 32) (by omega) (by omega)
        go_wp2
        go_roundw
        case rel => exact ⟨k + 1, q / 2 ^^^ 2197175160, by omega, by go_num, by first | rfl | (rw [hx]) | (simp; done), Lib.hid (by rw [stps_succ, ← HQ.out]; unfold stp; rw [if_pos ho]), hq2, trivial⟩
        case measure => simp [intOf]; omega
      · have ho' : ((q : Int) % 2 == 1) = false := beq_eq_false_iff_ne.2 (by omega)
        go_wp2
        go_roundw
        case rel => exact ⟨k + 1, q / 2, by omega, by go_num, by first | rfl | (go_num), Lib.hid (by rw [stps_succ, ← HQ.out]; unfold stp; rw [if_neg ho]), by omega, trivial⟩
        case measure => simp [intOf]; omega
    · obtain rfl : k = 8 := by omega
      go_wp2
      go_ret
      exact ⟨by rw [← HQ.out]; rfl, rfl⟩
end Go.Proofs.YtmknchdciblfjaaGreat
/-! XDb -/
namespace Go.Proofs.YtmknchdciblfjaaGreat
open Go Go.RowKit
theorem zero_size : (Tryz.zeroCells382).size = 256 := by kernel_rfl
theorem arr_size : (Tryz.prog.info? 382).map (·.size) = some 256 := by kernel_rfl
/-- what table returns -/
def TblPost (w : World) (e : Ending) (w' : World) : Prop := ∃ c : Array Value, e = .returned (.agg c) ∧ c.size = 256 ∧ (∀ j, j < 256 → c[j]? = some (.int .u32 (stps 8 j : Nat))) ∧ Below w.heap.size w w'
set_option maxRecDepth 100000 in
set_option maxHeartbeats 1000000 in
theorem table_any (w : World) :
    Calls Tryz.prog 280 #[] w (TblPost w) := by
  go_enter Tryz.func280, Tryz.ntmps280
  go_wp2
  go_loopw [3] (fun i wr => ∃ (k : Nat) (c : Array Value), k ≤ 256 ∧ i = .int .i64 k ∧ Hid (wr.heap[w.heap.size + 1]? = some (.cells c 382 (0, 0))) ∧ c.size = 256 ∧ Hid (∀ j, j < k → c[j]? = some (.int .u32 (stps 8 j : Nat))) ∧
    Hid (∃ c0 : Array Value, wr.heap[w.heap.size]? = some (.cells c0 382 (0, 0)) ∧ c0.size = 256) ∧ Below w.heap.size w wr ∧ w.heap.size + 1 < wr.heap.size) (fun i _ => 256 - (intOf i).toNat)
  case atStart => exact ⟨0, _, by omega, rfl, Lib.hid (heap_new' (by simp)), zero_size, Lib.hid (by intro j hj; omega), Lib.hid ⟨_, (Below.heap_alloc _ _ _ (by simp)).trans heap_new, zero_size⟩, belowA, by simp⟩
  case round =>
    obtain ⟨k, c, hk, rfl, HC, hc, HS, H0, hB, hz⟩ := hrel
    by_cases hlt : k < 256
    · go_wp2_with fail
      refine (step_any k _ (by omega)).mono ?_
      rintro e w1 ⟨rfl, rfl⟩
      have ck : w1.cell? ⟨w.heap.size + 1, k, none⟩ = some c[k] := by rw [cellB HC.out]; exact Array.getElem?_eq_getElem (by omega)
      have fk := frozenB HC.out k
      go_wp2
      go_roundw
      case rel =>
        refine ⟨k + 1, _, by omega, by go_num, Lib.hid (setB HC.out _ _), by simpa using hc, Lib.hid (fun j hj => ?_), Lib.hid ?_, belowA, by simp; omega⟩
        · rw [Array.getElem?_setIfInBounds]
          by_cases h : k = j
          · subst h; rw [if_pos rfl, if_pos (by omega)]
          · rw [if_neg h]; exact HS.out j (by omega)
        · obtain ⟨c0, h1, h2⟩ := H0.out
          exact ⟨c0, by rw [Below.heap_setCell _ _ _ _ (by show w.heap.size ≠ w.heap.size + 1; omega)]; exact h1, h2⟩
      case measure => simp [intOf]; omega
    · obtain rfl : k = 256 := by omega
      obtain ⟨c0, g0, h0⟩ := H0.out
      have h1c : c.all (·.oneCell') = true := by
        rw [Array.all_eq_true]
        intro i hi
        have := HS.out i (by omega)
        rw [Array.getElem?_eq_getElem hi] at this
        injection this with this
        rw [this]; rfl
      have z0 : w.heap.size < wr.heap.size := by omega
      go_wp2
      refine wp_load_row 382 _ rfl _ rfl _ c (0, 0) _ HC.out Tryz.underlying382 rfl (by rw [arr_size, hc]) ?_
      go_wp2
      have hst : (storeCells ⟨w.heap.size, 0, none⟩ c.toList).run Tryz.prog wr = .ok () (wr.setRow w.heap.size c) := by
        have h := run_storeCells_from (P := Tryz.prog) w.heap.size 382 c.toList 0 c0 wr g0 (by simp; omega) (fun v hv => (Array.all_eq_true_iff_forall_mem.1 h1c) v (by simpa using hv))
        simpa using h
      rw [hst]
      have gS := setRow_heap wr w.heap.size c0 c _ _ g0
      have hBS : Below w.heap.size w (wr.setRow w.heap.size c) := ⟨hB.os, hB.tape, hB.output, by have := hB.size; simpa [World.setRow] using this, fun k hk => by
        rw [← hB.block k hk]
        simp only [World.setRow, Array.getElem?_modify]
        rw [if_neg (by omega)]⟩
      have hB2 := Lib.hid hBS
      have gS2 := Lib.hid gS
      clear hst g0 hBS gS
      generalize wr.setRow w.heap.size c = W at *
      go_wp2
      refine bodyPost_ret (v := .agg c) (results_cell_row rfl _ _ w.heap.size _ c (0, 0) _ rfl gS2.out Tryz.underlying382 rfl (by rw [arr_size, hc])) rfl ?_
      exact ⟨c, rfl, hc, HS.out, hB2.out⟩
end Go.Proofs.YtmknchdciblfjaaGreat
/-! XDc -/
namespace Go.Proofs.YtmknchdciblfjaaGreat
open Go Go.RowKit Go.Shelf
attribute [local go_sem] Oper.semAt_some
attribute [local go_sem] B_getElem B_size B_app B_extract B_get B_toList
theorem bytes_in (F : Fence) (n : Nat) (h : F.fn 281) (hro : F.round = none) (s : List UInt8) (w : World) :
    CallsIn F n Tryz.prog 281 #[.string (B s)] w fun e W' => e = .returned (.func (.func 288) #[] #[.pointer (some ⟨w.heap.size, 0, none⟩)]) ∧ W' = w.alloc (.cells #[.string (B s)] 9) := by
  refine callsIn_of_wp Tryz.func281 rfl h ?_ hro
  simp only [Tryz.ntmps281, List.size_toArray, List.length_cons, List.length_nil, Nat.reduceAdd, Nat.reduceSub, Array.replicate_succ, Array.replicate_zero, List.push_toArray, List.append_toArray, List.nil_append, List.cons_append]
  gi_wp2
  refine bodyPost_ret (results_tmp rfl _ _ _) rfl ?_
  exact ⟨rfl, rfl⟩
set_option maxRecDepth 100000 in
set_option maxHeartbeats 1000000 in
theorem bytes1_in (F : Fence) (n : Nat) (h8 : F.fn 288) (hro : F.round = none) (hn : 1 ≤ n) (l Bn n₀ z : Nat) (s : List UInt8) (hs : s.length ≤ 1000000000) (hb : Bn < n₀) (hbz : Bn ≠ z) (J Jx : List UInt8 → World → Prop)
    (hY : ∀ pre x W, J pre W → pre.length < s.length → YieldAt F (n - 1) Tryz.prog l #[.int .u8 (x.toNat : Int)] W fun e W' =>
      (e = .returned (.bool true) ∧ J (pre ++ [x]) W' ∧ KpX n₀ z W W') ∨ (e = .returned (.bool false) ∧ Jx (pre ++ [x]) W'))
    (W : World) (hBn : W.cell? ⟨Bn, 0, none⟩ = some (.string (B s))) (h0 : J [] W) :
    CallsIn F n Tryz.prog 288 #[.func (.yield l) #[] #[], .pointer (some ⟨Bn, 0, none⟩)] W fun e W' => (∃ v, e = .returned v) ∧
      ((∃ ys, ys = s ∧ J ys W') ∨ (∃ pre, True ∧ Jx pre W')) := by
  refine callsIn_of_wp Tryz.func288 rfl h8 ?_ hro
  simp only [Tryz.ntmps288, List.size_toArray, List.length_cons, List.length_nil, Nat.reduceAdd, Nat.reduceSub, Array.replicate_succ, Array.replicate_zero, List.push_toArray, List.append_toArray, List.nil_append, List.cons_append]
  gi_wp2
  gi_loopw [6] (fun i w1 => ∃ k : Nat, k ≤ s.length ∧ i = .int .i64 (k : Int) ∧ J (s.take k) w1 ∧ KpX n₀ z W w1) (fun i _ => s.length - (intOf i).toNat)
  case atStart => exact ⟨0, by omega, rfl, h0, KpX.refl _ _ _⟩
  case round =>
    obtain ⟨k, hk, rfl, hJ, hB⟩ := hrel
    have hBn' := (hB.cell (p := ⟨Bn, 0, none⟩) hb hbz).trans hBn
    by_cases hlt : k < s.length
    · obtain ⟨x, hx⟩ : ∃ x, s[k]? = some x := ⟨_, List.getElem?_eq_getElem hlt⟩
      have HTK : s.take (k + 1) = s.take k ++ [x] := by rw [List.take_add_one, hx]; rfl
      have k1 : (k : Int) < (s.length : Int) := by omega
      have hxx : s[k] = x := by rw [List.getElem?_eq_getElem hlt] at hx; injection hx
      gi_wp2
      obtain ⟨fn, tmps, assign, body, hy, hR⟩ := hY (s.take k) x _ hJ (by rw [List.length_take]; omega)
      try dsimp only at hy
      rw [hy]
      gi_wp2
      refine hR.mono ?_
      rintro e W3 (⟨rfl, hJ3, hk3⟩ | ⟨rfl, hJx3⟩)
      · gi_wp2
        go_roundw
        case rel => exact ⟨k + 1, by omega, by go_num, by rw [HTK]; exact hJ3, hB.trans hk3⟩
        case measure => simp [intOf]; omega
      · gi_wp2
        refine bodyPost_ret (results_none rfl _ _ _) rfl ?_
        exact ⟨⟨_, rfl⟩, .inr ⟨_, trivial, hJx3⟩⟩
    · obtain rfl : k = s.length := by omega
      gi_wp2
      go_end0
      exact ⟨⟨_, rfl⟩, .inl ⟨_, rfl, by rwa [List.take_length] at hJ⟩⟩
theorem bytes_stops (F : Fence) (n : Nat) (h8 : F.fn 288) (hro : F.round = none) (hn : 1 ≤ n) (Bn n₀ z : Nat) (s : List UInt8) (hs : s.length ≤ 1000000000) (w : World) (hb : Bn < n₀) (hbz : Bn ≠ z) (hbw : Bn < w.heap.size)
    (hc : w.cell? ⟨Bn, 0, none⟩ = some (.string (B s))) :
    SeqStopsK F n Tryz.prog 288 #[.pointer (some ⟨Bn, 0, none⟩)] (fun x : UInt8 => #[Value.int .u8 (x.toNat : Int)]) (KpX n₀ z) (fun ys => ys = s) (fun _ => True) s.length w := fun l J Jx W hW _ _ hY h0 =>
  bytes1_in F n h8 hro hn l Bn n₀ z s hs hb hbz J Jx hY W ((hW.cell (p := ⟨Bn, 0, none⟩) (by simp; omega)).trans hc) h0
end Go.Proofs.YtmknchdciblfjaaGreat
/-! XDd -/
namespace Go.Proofs.YtmknchdciblfjaaGreat
open Go Go.RowKit Go.Shelf
attribute [local go_sem] Oper.semAt_some
attribute [local go_sem] B_getElem B_size B_app B_extract B_get B_toList
def upB (r b : Nat) : Nat := (r / 256) ^^^ stps 8 ((r % 256) ^^^ b)
def upd (r : Nat) (s : List UInt8) : Nat := s.foldl (fun r b => upB r b.toNat) r
theorem upB_lt {r b : Nat} (h : r < 4294967296) (hb : b < 256) : upB r b < 4294967296 := by
  unfold upB
  exact Nat.xor_lt_two_pow (n := 32) (by omega) (stps_lt 8 (Nat.lt_of_lt_of_le (Nat.xor_lt_two_pow (n := 8) (by omega) hb) (by decide)))
theorem upd_lt : ∀ (s : List UInt8) {r : Nat}, r < 4294967296 → upd r s < 4294967296
  | [], _, h => h
  | b :: s, _, h => upd_lt s (upB_lt h b.toNat_lt)
theorem upd_snoc (r : Nat) (s : List UInt8) (x : UInt8) : upd r (s ++ [x]) = upB (upd r s) x.toNat := by simp [upd, List.foldl_append]
set_option maxRecDepth 100000 in
set_option maxHeartbeats 2000000 in
theorem update_any (r : Nat) (s : List UInt8) (w : World) (hr : r < 4294967296) (hs : s.length ≤ 1000000000) :
    Calls Tryz.prog 265 #[.int .u32 (r : Int), .string (B s)] w fun e w' => e = .returned (.int .u32 (upd r s : Nat)) ∧ Below w.heap.size w w' := by
  refine (callsIn_wide (n := 12)).1 ?_
  refine callsIn_of_wp_marks Tryz.func265 rfl trivial ?_ rfl
  simp only [Tryz.ntmps265, List.size_toArray, List.length_cons, List.length_nil, Nat.reduceAdd, Nat.reduceSub, Array.replicate_succ, Array.replicate_zero, List.push_toArray, List.append_toArray, List.nil_append, List.cons_append]
  gi_wp2_with fail
  refine ⟨trivial, callsIn_wide.2 ((table_any _).mono ?_)⟩
  rintro e w1 ⟨c, rfl, hc, hT, hb1⟩
  have z1 : w.heap.size < w1.heap.size := by have := hb1.size; simp at this; omega
  have hB1 : Below w.heap.size w w1 := belowA
  have hout : Boxed w1 w.heap.size 266 (.int .u32 (r : Int)) := (hb1.block _ (by simp)).trans (by repeat (first | exact heap_new' (by first | rfl | (simp; done)) | refine (Below.heap_alloc _ _ _ (by first | (simp; done) | (simp; omega))).trans ?_))
  have h1c : c.all (·.oneCell') = true := by
    rw [Array.all_eq_true]
    intro i hi
    have := hT i (by omega)
    rw [Array.getElem?_eq_getElem hi] at this
    injection this with this
    rw [this]; rfl
  have hst := run_storeCells_new (P := Tryz.prog) w1 382 Tryz.zeroCells382 c (by rw [arr_size, hc]) (by rw [zero_size, hc]) h1c
  have HT := Lib.hid hT
  clear hT
  gi_wp2_with fail
  refine ⟨trivial, (bytes_in Fence.wide _ trivial rfl _ _).mono ?_⟩
  rintro e w2 ⟨rfl, rfl⟩
  clear hst
  obtain ⟨W0, hW0⟩ : ∃ W0, (w1.alloc (.cells c 382)).alloc (.cells #[.string (B s)] 9) = W0 := ⟨_, rfl⟩
  have hs0 : W0.heap.size = w1.heap.size + 2 := by rw [← hW0]; simp
  have hB0 : Below w.heap.size w W0 := by rw [← hW0]; exact belowA
  have hout0 : Boxed W0 w.heap.size 266 (.int .u32 (r : Int)) := by rw [← hW0]; exact (hout.alloc _).alloc _
  have hx0 : W0.heap[w1.heap.size]? = some (.cells c 382 (0, 0)) := by rw [← hW0]; exact (Below.heap_alloc _ _ _ (by simp)).trans heap_new
  have hx1 : W0.heap[w1.heap.size + 1]? = some (.cells #[.string (B s)] 9 (0, 0)) := by rw [← hW0]; exact heap_new' (by simp)
  have cs0 : W0.cell? ⟨w1.heap.size + 1, 0, none⟩ = some (.string (B s)) := cellB hx1 0
  clear hx1
  have HX0 := Lib.hid hx0
  have HS0 := Lib.hid hs0
  have hsz : w1.heap.size + 1 < W0.heap.size := by omega
  have e2 : (⟨w1.heap.size + 1, 0, none⟩ : Addr) = ⟨(w1.alloc (.cells c 382)).heap.size, 0, none⟩ := by simp
  rw [← e2, hW0]
  clear hW0 hs0 e2 hx0
  gi_wp2
  refine wpIn_rangeFunc_ownH rfl (by omega) (gf := 288) (lb := #[.pointer (some ⟨w1.heap.size + 1, 0, none⟩)]) rfl trivial (enters_of Tryz.func288 (by kernel_rfl) rfl)
    (bytes_stops Fence.wide 11 trivial rfl (by omega) (w1.heap.size + 1) W0.heap.size w.heap.size s hs W0 hsz (by omega) hsz cs0) (fun h k => h.trans k) (fun W l o o' hl _ _ _ => KpX.putObj W o' hl) (Below.refl _ _) (fun _ => rfl)
    (fun pre W => Boxed W w.heap.size 266 (.int .u32 (upd r pre : Nat)) ∧ (W.heap[w1.heap.size]? = some (.cells c 382 (0, 0)) ∧ Below w.heap.size w W ∧ W0.heap.size ≤ W.heap.size))
    (fun _ _ _ => False) ?hI (fun _ _ _ _ _ hs _ _ => hs) ?h0
    (fun x a' W => a' = { tmps := #[.int .u32 (r : Int), .string (B s), .pointer (some ⟨w.heap.size, 0, none⟩), undef, .int .u32 0, .pointer (some ⟨w1.heap.size, 0, none⟩), .int .u8 (x.toNat : Int), .agg c, .string (B s), .func (.func 288) #[] #[.pointer (some ⟨w1.heap.size + 1, 0, none⟩)], .int .u8 (x.toNat : Int), undef, undef, undef, undef, undef, undef, undef, undef, undef, undef], defers := [] }) ?hA ?assign ?body ?done ?stop
  case hI =>
    exact OwnFrom.and (fun s' A C row hs' hg hr' => (ownC hg hr' _ _ _ _ hs').trans hs') (OwnFrom.and (fun s' A C row hs' hg hr' => (ownC hg hr' _ _ _ _ hs').trans hs') (OwnFrom.and (ownFrom_below (Nat.le_refl _) hB0.size) (fun s' A C row hs' hg hr' => Nat.le_trans hs' hg.size)))
  case h0 => exact ⟨hout0, HX0.out, hB0, Nat.le_refl _⟩
  case hA => exact fun x a' s' A C row hs' hg hr' => hs'
  case assign =>
    rintro l pre x W K' ⟨h1, h3, hB, hW0⟩ hK'
    gi_wp2
    exact hK' _ _ (KeepsFrom.refl _ _) (KpX.refl _ _ _) ⟨h1, h3, hB, hW0⟩ rfl
  case body =>
    rintro l pre x a' W hll ⟨q, hq⟩ ⟨h1, h3, hB, hW0⟩ rfl hlt
    obtain ⟨v, hv⟩ : ∃ v, upd r pre = v := ⟨_, rfl⟩
    have hvl : v < 4294967296 := by rw [← hv]; exact upd_lt pre hr
    rw [hv] at h1
    have HV := Lib.hid hv
    clear hv
    obtain ⟨i, hi⟩ : ∃ i, (v % 256) ^^^ x.toNat = i := ⟨_, rfl⟩
    have hx := x.toNat_lt
    have hil : i < 256 := by rw [← hi]; exact Nat.xor_lt_two_pow (n := 8) (by omega) (by omega)
    have b1 : bits .xor .u8 ((v : Int) % 256) (x.toNat : Int) = (i : Int) := by
      rw [← hi, ← u8_xor_nat (v % 256) x.toNat (by omega) hx]; simp
    have b1' : bits .xor .u8 (IntKind.u8.wrap (v : Int)) (x.toNat : Int) = (i : Int) := by rw [IntKind.wrap_u8']; exact b1
    have b2 : bits .xor .u32 ((v : Int) / 256) ((stps 8 i : Nat) : Int) = ((upB v x.toNat : Nat) : Int) := by
      have := u32_xor_nat (v / 256) (stps 8 i) (by omega) (stps_lt 8 (by omega))
      unfold upB
      rw [hi]
      rw [← this]; simp
    have c1 := h1.cell
    have c2 : W.cell? ⟨w1.heap.size, i, none⟩ = some (.int .u32 (stps 8 i : Nat)) := by rw [cellB h3]; exact HT.out i hil
    have hS : ∀ V : World, (∀ q o, q < W.heap.size → V.cell? ⟨q, o, none⟩ = W.cell? ⟨q, o, none⟩) → V.cell? ⟨w.heap.size, 0, none⟩ = some (.int .u32 (v : Int)) ∧ V.cell? ⟨w1.heap.size, i, none⟩ = some (.int .u32 (stps 8 i : Nat)) := fun V hV =>
      ⟨(hV _ _ h1.lt).trans c1, (hV _ _ (by omega)).trans c2⟩
    have HSS := Lib.hid hS
    have i0 : (0 : Int) ≤ (i : Int) := by omega
    have i1 : (i : Int) < 256 := by omega
    clear hS hi
    gi_wp2
    refine wpIn_region_plan (fun V => V.cell? ⟨w.heap.size, 0, none⟩ = some (.int .u32 (v : Int)) ∧ V.cell? ⟨w1.heap.size, i, none⟩ = some (.int .u32 (stps 8 i : Nat))) [1, 0, 1, 0, 0, 0, 0, 1, 0, 3] [0, 1, 2, 3, 4, 5, 6, 7, 8, 9] (by kernel_rfl) (by kernel_rfl) ?_ ?_
    · exact ⟨c1, c2⟩
    (iterate 9 (refine plan_heldI rfl (by decide) (by rfl) (fun w1 => by rfl) (fun w1 hS => by (try (have hS := hS rfl; obtain hS := hS; repeat (obtain ⟨_, hS⟩ := hS))); go_simp; rfl) ?_; simp only [Act.put, List.setIfInBounds_toArray, List.set_cons_zero, List.set_cons_succ]))
    have f1 := h1.frozen
    (refine plan_lateI rfl rfl (by rfl) (fun K hK => ?_); go_simp)
    (refine hK _ _ ?_; clear hK K; (try simp only [Act.put, List.setIfInBounds_toArray, List.set_cons_zero, List.set_cons_succ]))
    refine plan_doneI ?_
    gi_wp2
    have z0 : w.heap.size < W0.heap.size := by omega
    have hh : ∀ k, k ≠ w.heap.size → (W.setCell ⟨w.heap.size, 0, none⟩ (.int .u32 ((upB v x.toNat : Nat) : Int))).drew.heap[k]? = W.heap[k]? := fun k hk => Below.heap_setCell _ _ _ _ hk
    refine ⟨⟨by simp, fun k o hk ho hc' => ?_⟩, ⟨by simp, fun k hk hne => hh k hne⟩, ?_, (hh _ (by omega)).trans h3, bdrew (bset hB (Nat.le_refl _)), by simpa using hW0⟩
    · rw [hh k (by omega)]; exact ho
    · rw [upd_snoc, HV.out]
      exact h1.set _
  case done =>
    rintro D ys W hD rfl ⟨h1, h3, hB, hW0⟩ hK'
    have c1 := h1.cell
    gi_wp2
    refine ⟨by simp, .inl ⟨_, _, rfl, run_takeDeferred hK', ?_⟩⟩
    exact ⟨_, results_tmp rfl _ _ _, rfl, hB.grown (grownBy_putObj' W D _) hB.size (fun q hq => by injection hq with hq; omega)⟩
  case stop =>
    rintro D c' pre W _ _ h _
    exact h.elim
/-- the checksum of a string -/
def crcN (s : List UInt8) : Nat := upd 4294967295 s ^^^ 4294967295
theorem crcN_lt (s : List UInt8) : crcN s < 4294967296 := Nat.xor_lt_two_pow (n := 32) (upd_lt s (by decide)) (by decide)
set_option maxRecDepth 100000 in
set_option maxHeartbeats 1000000 in
theorem sum_any (s : List UInt8) (w : World) (hs : s.length ≤ 1000000000) :
    Calls Tryz.prog 246 #[.string (B s)] w fun e w' => e = .returned (.int .i64 (crcN s : Nat)) ∧ Below w.heap.size w w' := by
  have hb : bits .xor .u32 ((upd 4294967295 s : Nat) : Int) 4294967295 = ((crcN s : Nat) : Int) := by
    have := u32_xor_nat (upd 4294967295 s) 4294967295 (upd_lt s (by decide)) (by decide)
    exact this
  have hw : IntKind.i64.wrap ((crcN s : Nat) : Int) = ((crcN s : Nat) : Int) := by have := crcN_lt s; rw [IntKind.wrap_i64]; omega
  go_enter Tryz.func246, Tryz.ntmps246
  go_wp2_with fail
  refine (update_any 4294967295 s _ (by decide) hs).mono ?_
  rintro e w1 ⟨rfl, hb1⟩
  go_wp2
  go_ret
  exact ⟨rfl, belowA⟩
theorem conv4 (a b c d : Int) (w : World) : (convert 23 9 (.slice (some ⟨w.heap.size, 0, none⟩) 4 4)).run Tryz.prog (w.alloc (.cells #[.int .u8 a, .int .u8 b, .int .u8 c, .int .u8 d] 5)) = .ok (.string (B [UInt8.ofNat a.toNat, UInt8.ofNat b.toNat, UInt8.ofNat c.toNat, UInt8.ofNat d.toNat])) (w.alloc (.cells #[.int .u8 a, .int .u8 b, .int .u8 c, .int .u8 d] 5)) := by
  refine run_convert_bytes_arg _ 23 5 Tryz.underlying23 Tryz.underlying5 w.heap.size 0 4 4 [a, b, c, d] rfl (fun i hi => ?_) 9 Tryz.underlying9
  rw [cellB heap_new]
  match i, hi with
  | 0, _ => rfl
  | 1, _ => rfl
  | 2, _ => rfl
  | 3, _ => rfl
attribute [local go_sem ↓] conv4
/-- the checksum as four bytes -/
def tailB (s : List UInt8) : List UInt8 := [UInt8.ofNat (crcN s % 256), UInt8.ofNat (crcN s / 256 % 256), UInt8.ofNat (crcN s / 65536 % 256), UInt8.ofNat (crcN s / 16777216 % 256)]
set_option maxRecDepth 100000 in
set_option maxHeartbeats 1000000 in
theorem tail_any (s : List UInt8) (w : World) (hs : s.length ≤ 1000000000) :
    Calls Tryz.prog 200 #[.string (B s)] w fun e w' => e = .returned (.string (B (tailB s))) ∧ Below w.heap.size w w' := by
  go_enter Tryz.func200, Tryz.ntmps200
  go_wp2_with fail
  refine (sum_any s _ hs).mono ?_
  rintro e w1 ⟨rfl, hb1⟩
  go_wp2
  go_ret
  exact ⟨rfl, belowA⟩
end Go.Proofs.YtmknchdciblfjaaGreat
