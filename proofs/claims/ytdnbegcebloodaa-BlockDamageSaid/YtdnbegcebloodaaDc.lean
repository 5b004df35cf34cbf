/- Layer 2 (crc), the program: bytes. -/
import Derived.RangeFuncNested
import Derived.RangeFuncBound
import Derived.RangeFuncCalls
import Derived.RangeFuncLeaves
import Derived.RangeFuncBox
import Derived.RangeFuncFrom
import Derived.Shelf.Abstract
import Derived.Shelf.RegionOpen
import Derived.WalkKit
import Derived.OwnWalkIn
import Derived.TacticsInMore
import Derived.LoopNIn
import Derived.LoopIn
import Derived.Test.YtdnbegcebloodaaDb
import Derived.Test.YtdnbegcebloodaaKp
import Derived.Test.YtdnbegcebloodaaRI
set_option linter.unusedVariables false
namespace Go.Proofs.Ytdnbegcebloodaa
open Go Go.RowKit Go.Shelf
attribute [local go_sem] Oper.semAt_some
attribute [local go_sem] B_getElem B_size B_app B_extract B_get B_toList

theorem bytes_in (F : Fence) (n : Nat) (h : F.fn 89) (hro : F.round = none) (s : List UInt8) (w : World) :
    CallsIn F n Try.prog 89 #[.string (B s)] w fun e W' => e = .returned (.func (.func 91) #[] #[.pointer (some ⟨w.heap.size, 0, none⟩)]) ∧ W' = w.alloc (.cells #[.string (B s)] 9) := by
  refine callsIn_of_wp Try.func89 rfl h ?_ hro
  simp only [Try.ntmps89, List.size_toArray, List.length_cons, List.length_nil, Nat.reduceAdd, Nat.reduceSub, Array.replicate_succ, Array.replicate_zero, List.push_toArray, List.append_toArray, List.nil_append, List.cons_append]
  gi_wp2
  refine bodyPost_ret (results_tmp rfl _ _ _) rfl ?_
  exact ⟨rfl, rfl⟩

set_option maxRecDepth 100000 in
set_option maxHeartbeats 1000000 in
theorem bytes1_in (F : Fence) (n : Nat) (h8 : F.fn 91) (hro : F.round = none) (hn : 1 ≤ n) (l Bn n₀ z : Nat) (s : List UInt8) (hs : s.length ≤ 1000000000) (hb : Bn < n₀) (hbz : Bn ≠ z) (J Jx : List UInt8 → World → Prop)
    (hY : ∀ pre x W, J pre W → pre.length < s.length → YieldAt F (n - 1) Try.prog l #[.int .u8 (x.toNat : Int)] W fun e W' =>
      (e = .returned (.bool true) ∧ J (pre ++ [x]) W' ∧ KpX n₀ z W W') ∨ (e = .returned (.bool false) ∧ Jx (pre ++ [x]) W'))
    (W : World) (hBn : W.cell? ⟨Bn, 0, none⟩ = some (.string (B s))) (h0 : J [] W) :
    CallsIn F n Try.prog 91 #[.func (.yield l) #[] #[], .pointer (some ⟨Bn, 0, none⟩)] W fun e W' => (∃ v, e = .returned v) ∧
      ((∃ ys, ys = s ∧ J ys W') ∨ (∃ pre, True ∧ Jx pre W')) := by
  refine callsIn_of_wp Try.func91 rfl h8 ?_ hro
  simp only [Try.ntmps91, List.size_toArray, List.length_cons, List.length_nil, Nat.reduceAdd, Nat.reduceSub, Array.replicate_succ, Array.replicate_zero, List.push_toArray, List.append_toArray, List.nil_append, List.cons_append]
  gi_wp2
  gi_loopw [6] (fun i w1 => ∃ k : Nat, k ≤ s.length ∧ i = .int .i64 (k : Int) ∧ J (s.take k) w1 ∧ KpX n₀ z W w1) (fun i _ => s.length - (intOf i).toNat)
  case atStart => exact ⟨0, by omega, rfl, h0, KpX.refl _ _ _⟩
  case round =>
    obtain ⟨k, hk, rfl, hJ, hB⟩ := hrel
    have hBn' := (hB.cell (p := ⟨Bn, 0, none⟩) hb hbz).trans hBn
    by_cases hlt : k < s.length
    · obtain ⟨x, hx⟩ : ∃ x, s[k]? = some x := ⟨_, List.getElem?_eq_getElem hlt⟩
      have HTK : s.take (k + 1) = s.take k ++ [x] := by rw [List.take_add_one, hx]; rfl
      have k1 : (k : Int) < (s.length : Int) := by omega
      have hxx : s[k] = x := by rw [List.getElem?_eq_getElem hlt] at hx; injection hx
      gi_wp2
      obtain ⟨fn, tmps, assign, body, hy, hR⟩ := hY (s.take k) x _ hJ (by rw [List.length_take]; omega)
      try dsimp only at hy
      rw [hy]
      gi_wp2
      refine hR.mono ?_
      rintro e W3 (⟨rfl, hJ3, hk3⟩ | ⟨rfl, hJx3⟩)
      · gi_wp2
        go_roundw
        case rel => exact ⟨k + 1, by omega, by go_num, by rw [HTK]; exact hJ3, hB.trans hk3⟩
        case measure => simp [intOf]; omega
      · gi_wp2
        refine bodyPost_ret (results_none rfl _ _ _) rfl ?_
        exact ⟨⟨_, rfl⟩, .inr ⟨_, trivial, hJx3⟩⟩
    · obtain rfl : k = s.length := by omega
      gi_wp2
      go_end0
      exact ⟨⟨_, rfl⟩, .inl ⟨_, rfl, by rwa [List.take_length] at hJ⟩⟩

theorem bytes_stops (F : Fence) (n : Nat) (h8 : F.fn 91) (hro : F.round = none) (hn : 1 ≤ n) (Bn n₀ z : Nat) (s : List UInt8) (hs : s.length ≤ 1000000000) (w : World) (hb : Bn < n₀) (hbz : Bn ≠ z) (hbw : Bn < w.heap.size)
    (hc : w.cell? ⟨Bn, 0, none⟩ = some (.string (B s))) :
    SeqStopsK F n Try.prog 91 #[.pointer (some ⟨Bn, 0, none⟩)] (fun x : UInt8 => #[Value.int .u8 (x.toNat : Int)]) (KpX n₀ z) (fun ys => ys = s) (fun _ => True) s.length w := fun l J Jx W hW _ _ hY h0 =>
  bytes1_in F n h8 hro hn l Bn n₀ z s hs hb hbz J Jx hY W ((hW.cell (p := ⟨Bn, 0, none⟩) (by simp; omega)).trans hc) h0
end Go.Proofs.Ytdnbegcebloodaa
