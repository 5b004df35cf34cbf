/- TopMirrorTight: contact: pass (printed by gen/g22.py) -/
import Derived.BigQuiet
import Derived.BigRegion
import Derived.RangeFuncNested
import Derived.RangeFuncBound
import Derived.RangeFuncCalls
import Derived.RangeFuncLeaves
import Derived.RangeFuncBox
import Derived.RangeFuncFrom
import Derived.Shelf.Abstract
import Derived.Shelf.RegionOpen
import Derived.OwnWalkIn
import Derived.LoopIn
import Derived.LoopNIn
import Derived.TacticsInMore
import Derived.Lib.MinMax
import Derived.Test.YtbpmccfbfpgijaaGreatNa
set_option linter.unusedVariables false
set_option linter.unusedSimpArgs false
namespace Go.Proofs.YtbpmccfbfpgijaaGreat
open Go Go.RowKit Iv
attribute [local go_sem] Oper.semAt_some
attribute [local go_sem] B_getElem B_size B_app B_extract B_get B_toList
open Go.Shelf
/-- a segment -/
abbrev Sg := {n : Int // 1 ≤ n ∧ n ≤ 16}
theorem segments_in (F : Fence) (n : Nat) (h : F.fn 114) (hro : F.round = none) (s : Int) (w : World) :
    CallsIn F n Tryz.prog 114 #[.int .i64 s] w fun e W' => e = .returned (.func (.func 141) #[] #[.pointer (some ⟨w.heap.size, 0, none⟩)]) ∧ W' = w.alloc (.cells #[.int .i64 s] 3) := by
  refine callsIn_of_wp Tryz.func114 rfl h ?_ hro
  simp only [Tryz.ntmps114, List.size_toArray, List.length_cons, List.length_nil, Nat.reduceAdd, Nat.reduceSub, Array.replicate_succ, Array.replicate_zero, List.push_toArray, List.append_toArray, List.nil_append, List.cons_append]
  gi_wp2
  refine bodyPost_ret (results_tmp rfl _ _ _) rfl ?_
  exact ⟨rfl, rfl⟩
set_option maxRecDepth 100000 in
set_option maxHeartbeats 1000000 in
theorem segments1_in (F : Fence) (n : Nat) (h8 : F.fn 141) (hro : F.round = none) (hn : 1 ≤ n) (l Bn n₀ z : Nat) (s : Nat) (hs : s ≤ 65536) (hb : Bn < n₀) (hbz : Bn ≠ z) (J Jx : List Sg → World → Prop)
    (hY : ∀ pre x W, J pre W → pre.length < (segs s).length → YieldAt F (n - 1) Tryz.prog l #[.int .i64 x.1] W fun e W' =>
      (e = .returned (.bool true) ∧ J (pre ++ [x]) W' ∧ KpX n₀ z W W') ∨ (e = .returned (.bool false) ∧ Jx (pre ++ [x]) W'))
    (W : World) (hBn : W.cell? ⟨Bn, 0, none⟩ = some (.int .i64 (s : Int))) (h0 : J [] W) :
    CallsIn F n Tryz.prog 141 #[.func (.yield l) #[] #[], .pointer (some ⟨Bn, 0, none⟩)] W fun e W' => (∃ v, e = .returned v) ∧
      ((∃ ys, ys.map (·.1) = segs s ∧ J ys W') ∨ (∃ pre, True ∧ Jx pre W')) := by
  refine callsIn_of_wp Tryz.func141 rfl h8 ?_ hro
  simp only [Tryz.ntmps141, List.size_toArray, List.length_cons, List.length_nil, Nat.reduceAdd, Nat.reduceSub, Array.replicate_succ, Array.replicate_zero, List.push_toArray, List.append_toArray, List.nil_append, List.cons_append]
  gi_wp2
  gi_loopw [3] (fun i w1 => ∃ (v : Int) (pre : List Sg), -16 ≤ v ∧ v ≤ s ∧ i = .int .i64 v ∧ Hid (segs s = pre.map (·.1) ++ segs v.toNat) ∧ J pre w1 ∧ KpX n₀ z W w1) (fun i _ => (intOf i).toNat)
  case atStart => exact ⟨s, [], by omega, by omega, rfl, Lib.hid (by rw [Int.toNat_natCast]; rfl), h0, KpX.refl _ _ _⟩
  case round =>
    obtain ⟨v, pre, v0, v1, rfl, HS, hJ, hB⟩ := hrel
    by_cases hlt : 0 < v
    · have hSK := segs_pos (s := v.toNat) (by omega)
      obtain ⟨x, hx⟩ : ∃ x : Sg, ((min v.toNat 16 : Nat) : Int) = x.1 := ⟨⟨((min v.toNat 16 : Nat) : Int), by have : min v.toNat 16 ≥ 1 := Nat.le_min.2 ⟨by omega, by omega⟩; omega, by have : min v.toNat 16 ≤ 16 := Nat.min_le_right _ _; omega⟩, rfl⟩
      have hx2 : min v 16 = x.1 := by omega
      have HS2 : Hid (segs s = (pre ++ [x]).map (·.1) ++ segs (v - 16).toNat) := Lib.hid (by rw [HS.out, hSK, hx, show v.toNat - 16 = (v - 16).toNat by omega]; simp)
      have hpl : pre.length < (segs s).length := by rw [HS2.out]; simp only [List.length_append, List.length_map, List.length_cons, List.length_nil]; omega
      have HX2 := Lib.hid hx2
      clear hSK hx
      gi_wp2
      obtain ⟨fn, tmps, assign, body, hy, hR⟩ := hY pre x _ hJ hpl
      try dsimp only at hy
      rw [hy]
      gi_wp2
      refine hR.mono ?_
      rintro e W3 (⟨rfl, hJ3, hk3⟩ | ⟨rfl, hJx3⟩)
      · gi_wp2
        go_roundw
        case rel => exact ⟨v - 16, pre ++ [x], by omega, by omega, rfl, HS2, hJ3, hB.trans hk3⟩
        case measure => simp [intOf]; omega
      · gi_wp2
        refine bodyPost_ret (results_none rfl _ _ _) rfl ?_
        exact ⟨⟨_, rfl⟩, .inr ⟨_, trivial, hJx3⟩⟩
    · have hz : v.toNat = 0 := by omega
      have HE : Hid (segs s = pre.map (·.1)) := Lib.hid (by rw [HS.out, hz, segs_zero, List.append_nil])
      clear hz
      gi_wp2
      go_end0
      exact ⟨⟨_, rfl⟩, .inl ⟨_, HE.out.symm, hJ⟩⟩
theorem segments_stops (F : Fence) (n : Nat) (h8 : F.fn 141) (hro : F.round = none) (hn : 1 ≤ n) (Bn n₀ z : Nat) (s : Nat) (hs : s ≤ 65536) (w : World) (hb : Bn < n₀) (hbz : Bn ≠ z) (hbw : Bn < w.heap.size)
    (hc : w.cell? ⟨Bn, 0, none⟩ = some (.int .i64 (s : Int))) :
    SeqStopsK F n Tryz.prog 141 #[.pointer (some ⟨Bn, 0, none⟩)] (fun x : Sg => #[Value.int .i64 x.1]) (KpX n₀ z) (fun ys => ys.map (·.1) = segs s) (fun _ => True) (segs s).length w := fun l J Jx W hW _ _ hY h0 =>
  segments1_in F n h8 hro hn l Bn n₀ z s hs hb hbz J Jx hY W ((hW.cell (p := ⟨Bn, 0, none⟩) (by simp; omega)).trans hc) h0
end Go.Proofs.YtbpmccfbfpgijaaGreat
