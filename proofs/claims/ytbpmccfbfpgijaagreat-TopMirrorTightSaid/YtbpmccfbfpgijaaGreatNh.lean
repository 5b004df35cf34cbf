/- TopMirrorTight: journey: the hops from a node (printed by gen/g22.py) -/
import Derived.BigQuiet
import Derived.BigRegion
import Derived.Test.YtbpmccfbfpgijaaGreatNb
import Derived.Test.YtbpmccfbfpgijaaGreatNg
set_option linter.unusedVariables false
set_option linter.unusedSimpArgs false
namespace Go.Proofs.YtbpmccfbfpgijaaGreat
open Go Go.RowKit Iv
attribute [local go_sem] Oper.semAt_some
attribute [local go_sem] B_getElem B_size B_app B_extract B_get B_toList
open Go.Shelf
/-- v does not lie in the block z -/
def RNo (z : Nat) (v : Value) : Prop := ∀ (a : Addr) (n c : Nat), v = .slice (some a) n c → a.block ≠ z
theorem RRow.keepX {α : Type} {enc : α → List Value} {s z : Nat} {w w' : World} {N M : Nat} {v : Value} {l : List α} (h : RRow enc s w N v l) (hv : 0 < l.length → RNo z v) (k : ∀ b o, b < N → b ≠ z → w'.cell? ⟨b, o, none⟩ = w.cell? ⟨b, o, none⟩) (hM : N ≤ M) : RRow enc s w' M v l := by
  obtain ⟨a, c, rfl, h1, h2, h3, h4⟩ := h
  refine ⟨a, c, rfl, h1, h2, h3, fun hp => ?_⟩
  obtain ⟨b, o, rfl, hb, hc⟩ := h4 hp
  exact ⟨b, o, rfl, by omega, fun i x hx j u hu => (k b _ hb (hv hp _ _ _ rfl)).trans (hc i x hx j u hu)⟩
def conAt (cs : List Con) (i : Nat) : Con := cs.getD i ⟨0, 0, 0, 0, 0, 0, 0⟩
theorem conAt_eq {cs : List Con} {i : Nat} {c : Con} (h : cs[i]? = some c) : conAt cs i = c := by unfold conAt; rw [List.getD_eq_getElem?_getD, h]; rfl
/-- a hop that is yielded: the contact's number -/
def hpB (cs : List Con) (node t : Int) (s : Nat) (i : Nat) : Bool := decide ((conAt cs i).fr = node) && (hopR (conAt cs i) i s t).2
abbrev Hx (cs : List Con) (node t : Int) (s : Nat) := {i : Nat // i < cs.length ∧ hpB cs node t s i = true}
def hopsL (cs : List Con) (node t : Int) (s : Nat) (k : Nat) : List Nat := (List.range k).filter (hpB cs node t s)
theorem hopsL_succ (cs : List Con) (node t : Int) (s k : Nat) : hopsL cs node t s (k + 1) = hopsL cs node t s k ++ if hpB cs node t s k = true then [k] else [] := by
  unfold hopsL
  rw [List.range_succ, List.filter_append]
  congr 1
  cases h : hpB cs node t s k <;> simp [h]
theorem hopsL_len (cs : List Con) (node t : Int) (s k : Nat) : (hopsL cs node t s k).length ≤ k := by
  unfold hopsL
  exact Nat.le_trans (List.length_filter_le _ _) (by simp)
set_option maxRecDepth 100000 in
set_option maxHeartbeats 8000000 in
theorem hops_stops (pB nB rB sB n₀ zx : Nat) (cs : List Con) (node t : Int) (s : Nat) (qa : Option Addr) (qn qk : Nat) (ac : Option Addr) (cc : Nat) (W0 : World) (z1 : pB < n₀ ∧ pB ≠ zx) (z2 : nB < n₀ ∧ nB ≠ zx) (z3 : rB < n₀ ∧ rB ≠ zx) (z4 : sB < n₀ ∧ sB ≠ zx) (hn : n₀ ≤ W0.heap.size)
    (b1 : W0.heap[pB]? = some (.cells #[.slice qa qn qk, .slice ac cs.length cc] 25 (0, 0))) (b2 : W0.heap[nB]? = some (.cells #[.int .i64 node] 3 (0, 0))) (b3 : W0.heap[rB]? = some (.cells #[.int .i64 t] 3 (0, 0))) (b4 : W0.heap[sB]? = some (.cells #[.int .i64 (s : Int)] 3 (0, 0)))
    (hcs : RRow conC 7 W0 n₀ (.slice ac cs.length cc) cs) (hno : 0 < cs.length → RNo zx (.slice ac cs.length cc)) (hl : cs.length ≤ 64) (hc : ∀ c ∈ cs, chkCon c = 0) (s1 : 1 ≤ s) (hs : s ≤ 65536) (t0 : 0 ≤ t) (t1 : t ≤ 1099511627776) :
    SeqStopsK Fence.wide 11 Tryz.prog 73 #[.pointer (some ⟨pB, 0, none⟩), .pointer (some ⟨nB, 0, none⟩), .pointer (some ⟨rB, 0, none⟩), .pointer (some ⟨sB, 0, none⟩)] (fun x : Hx cs node t s => #[Value.agg (hopR (conAt cs x.1) x.1 s t).1]) (KpX n₀ zx) (fun ys => ys.map (·.1) = hopsL cs node t s cs.length) (fun _ => True) cs.length W0 := by
  intro l J Jx W hWb hJ hJx hY hJ0
  have hWs := hWb.size
  have HB1 : Hid (W.heap[pB]? = some (.cells #[.slice qa qn qk, .slice ac cs.length cc] 25 (0, 0))) := Lib.hid ((hWb.block _ (by omega)).trans b1)
  have HB2 : Hid (W.heap[nB]? = some (.cells #[.int .i64 node] 3 (0, 0))) := Lib.hid ((hWb.block _ (by omega)).trans b2)
  have HB3 : Hid (W.heap[rB]? = some (.cells #[.int .i64 t] 3 (0, 0))) := Lib.hid ((hWb.block _ (by omega)).trans b3)
  have HB4 : Hid (W.heap[sB]? = some (.cells #[.int .i64 (s : Int)] 3 (0, 0))) := Lib.hid ((hWb.block _ (by omega)).trans b4)
  have HCS : Hid (RRow conC 7 W n₀ (.slice ac cs.length cc) cs) := Lib.hid (hcs.keep (fun b o hb => hWb.cell (p := ⟨b, o, none⟩) (by show b < W0.heap.size; omega)) (Nat.le_refl _))
  have HNO := Lib.hid hno
  have HC := Lib.hid hc
  have hlen : cs.length ≤ 9223372036854775807 := by omega
  have HAL : ∀ pre V o, J pre V → J pre (V.alloc o) := fun pre V o h => hJ pre V _ none h (World.grownBy_alloc _ _ _) (fun r e => by cases e)
  have HBE : ∀ pre (V V' : World), Below V.heap.size V V' → J pre V → J pre V' := fun pre V V' hb h => hJ pre V _ none h ⟨hb.os, hb.tape, hb.output, hb.size, fun k hk _ => hb.block k hk⟩ (fun r e => by cases e)
  clear b1 b2 b3 b4 hcs hno hc hWb
  refine callsIn_of_wp Tryz.func73 rfl trivial ?_ rfl
  simp only [Tryz.ntmps73, List.size_toArray, List.length_cons, List.length_nil, Nat.reduceAdd, Nat.reduceSub, Array.replicate_succ, Array.replicate_zero, List.push_toArray, List.append_toArray, List.nil_append, List.cons_append]
  have cp := fun o => cellB HB1.out o
  gi_wp2
  gi_loopw [13] (fun kv w1 => ∃ (k : Nat) (pre : List (Hx cs node t s)), k ≤ cs.length ∧ kv = .int .i64 (k : Int) ∧ Hid (pre.map (·.1) = hopsL cs node t s k) ∧ Hid (J pre w1) ∧ KpX n₀ zx W w1) (fun kv _ => cs.length - (intOf kv).toNat)
  case atStart => exact ⟨0, [], Nat.zero_le _, rfl, Lib.hid rfl, Lib.hid hJ0, KpX.refl _ _ _⟩
  case round =>
    obtain ⟨k, pre, hk, rfl, HS, HJk, hB⟩ := hrel
    have hsr : W.heap.size ≤ wr.heap.size := hB.1
    by_cases hlt : k < cs.length
    · obtain ⟨c, hc⟩ : ∃ c, cs[k]? = some c := ⟨_, List.getElem?_eq_getElem hlt⟩
      obtain ⟨a', c', e', hx1, hx2, hx3, hx4⟩ := HCS.out
      obtain ⟨bb, o, e2, hbn, hcell⟩ := hx4 (by omega)
      have e3 : ac = some ⟨bb, o, none⟩ := by injection e' with q1 q2 q3; rw [q1, e2]
      subst e3
      clear e' e2 hx1 hx2 hx3 hx4
      have hbx : bb ≠ zx := HNO.out (by omega) _ _ _ rfl
      have p0 : wr.cell? ⟨bb, o + k * 7, none⟩ = some (.int .i64 c.fr) := (hB.cell (p := ⟨bb, o + k * 7, none⟩) hbn hbx).trans (hcell k c hc 0 _ rfl)
      have p1 : wr.cell? ⟨bb, o + k * 7 + 1, none⟩ = some (.int .i64 c.tt) := (hB.cell (p := ⟨bb, o + k * 7 + 1, none⟩) hbn hbx).trans (hcell k c hc 1 _ rfl)
      have p2 : wr.cell? ⟨bb, o + k * 7 + 2, none⟩ = some (.int .i64 c.st) := (hB.cell (p := ⟨bb, o + k * 7 + 2, none⟩) hbn hbx).trans (hcell k c hc 2 _ rfl)
      have p3 : wr.cell? ⟨bb, o + k * 7 + 3, none⟩ = some (.int .i64 c.en) := (hB.cell (p := ⟨bb, o + k * 7 + 3, none⟩) hbn hbx).trans (hcell k c hc 3 _ rfl)
      have p4 : wr.cell? ⟨bb, o + k * 7 + 4, none⟩ = some (.int .i64 c.ra) := (hB.cell (p := ⟨bb, o + k * 7 + 4, none⟩) hbn hbx).trans (hcell k c hc 4 _ rfl)
      have p5 : wr.cell? ⟨bb, o + k * 7 + 5, none⟩ = some (.int .i64 c.rg) := (hB.cell (p := ⟨bb, o + k * 7 + 5, none⟩) hbn hbx).trans (hcell k c hc 5 _ rfl)
      have p6 : wr.cell? ⟨bb, o + k * 7 + 6, none⟩ = some (.int .i64 c.lo) := (hB.cell (p := ⟨bb, o + k * 7 + 6, none⟩) hbn hbx).trans (hcell k c hc 6 _ rfl)
      have HCC : Hid (chkCon c = 0) := Lib.hid (HC.out c (List.mem_of_getElem? hc))
      have HCK : Hid (conAt cs k = c) := Lib.hid (conAt_eq hc)
      have P1 : wr.heap[pB]? = some (.cells #[.slice qa qn qk, .slice (some ⟨bb, o, none⟩) cs.length cc] 25 (0, 0)) := (hB.2 _ z1.1 z1.2).trans HB1.out
      have P2 : wr.heap[nB]? = some (.cells #[.int .i64 node] 3 (0, 0)) := (hB.2 _ z2.1 z2.2).trans HB2.out
      have P3 : wr.heap[rB]? = some (.cells #[.int .i64 t] 3 (0, 0)) := (hB.2 _ z3.1 z3.2).trans HB3.out
      have P4 : wr.heap[sB]? = some (.cells #[.int .i64 (s : Int)] 3 (0, 0)) := (hB.2 _ z4.1 z4.2).trans HB4.out
      have k0 : (0 : Int) ≤ (k : Int) := by omega
      have k1 : (k : Int) < (cs.length : Int) := by omega
      have u1 : pB < wr.heap.size := by omega
      have u2 : nB < wr.heap.size := by omega
      have u3 : rB < wr.heap.size := by omega
      have u4 : sB < wr.heap.size := by omega
      have g1 := fun o => cellB P1 o
      have g2 := cellB P2 0
      have g3 := cellB P3 0
      have g4 := cellB P4 0
      have HKC := Lib.hid hc
      clear P1 P2 P3 P4 hcell
      by_cases cf : c.fr = node
      case neg =>
        have d1 : (c.fr != node) = true := by simpa using cf
        have HS2 : Hid (pre.map (·.1) = hopsL cs node t s (k + 1)) := Lib.hid (by rw [hopsL_succ, HS.out, if_neg (by unfold hpB; rw [HCK.out]; simp [cf]), List.append_nil])
        clear cf hc
        gi_wp2
        go_roundw
        case rel => exact ⟨k + 1, pre, by omega, by go_num, HS2, Lib.hid (HAL _ _ _ HJk.out), hB.trans ⟨by simp, fun q hq _ => Below.heap_alloc _ _ _ (by omega)⟩⟩
        case measure => simp [intOf]; omega
      have d1 : (c.fr != node) = false := by simpa using cf
      have HCF := Lib.hid cf
      have HROW : Hid (RRow conC 7 (wr.alloc (.cells #[.int .i64 c.fr, .int .i64 c.tt, .int .i64 c.st, .int .i64 c.en, .int .i64 c.ra, .int .i64 c.rg, .int .i64 c.lo] 58)) (wr.alloc (.cells #[.int .i64 c.fr, .int .i64 c.tt, .int .i64 c.st, .int .i64 c.en, .int .i64 c.ra, .int .i64 c.rg, .int .i64 c.lo] 58)).heap.size (.slice (some ⟨bb, o, none⟩) cs.length cc) cs) := Lib.hid (HCS.out.keepX HNO.out (fun b o hb hne => (World.cell?_alloc_lt _ _ _ (by show b < wr.heap.size; omega)).trans (hB.cell (p := ⟨b, o, none⟩) hb hne)) (by simp; omega))
      clear cf hc
      by_cases zz : max t c.st ≤ c.en - durS c s
      case neg =>
        have HH : Hid (hopR c k s t = (#[.int .i64 0, .int .i64 0, .int .i64 0, .int .i64 0], false)) := Lib.hid (if_neg zz)
        have HS2 : Hid (pre.map (·.1) = hopsL cs node t s (k + 1)) := Lib.hid (by rw [hopsL_succ, HS.out, if_neg (by unfold hpB; rw [HCK.out, HH.out]; simp), List.append_nil])
        clear zz
        gi_wp2_with fail
        refine ⟨trivial, callsIn_wide.2 ((hop_any cs _ _ k c t s _ ⟨_, _, _, rfl⟩ HROW.out HKC.out hl HCC.out s1 hs t0 t1).mono ?_)⟩
        rw [HH.out]
        rintro e w2 ⟨rfl, hb2⟩
        have hsz2 : wr.heap.size + 1 ≤ w2.heap.size := by have := hb2.size; simpa using this
        have HJ2 : Hid (J pre w2) := Lib.hid (HBE _ _ _ hb2 (HAL _ _ _ HJk.out))
        have HK2 : Hid (KpX n₀ zx wr w2) := Lib.hid ⟨by omega, fun q hq _ => (hb2.block q (by simp; omega)).trans (Below.heap_alloc _ _ _ (by omega))⟩
        clear hb2
        gi_wp2
        refine ⟨fun f h => (by cases h), ?_⟩
        gi_wp2
        go_roundw
        case rel => exact ⟨k + 1, pre, by omega, by go_num, HS2, Lib.hid (HAL _ _ _ HJ2.out), hB.trans (HK2.out.trans ⟨by simp, fun q hq _ => Below.heap_alloc _ _ _ (by omega)⟩)⟩
        case measure => simp [intOf]; omega
      obtain ⟨M, hM⟩ : ∃ q, max t c.st = q := ⟨_, rfl⟩
      obtain ⟨D, hD⟩ : ∃ q, durS c s = q := ⟨_, rfl⟩
      have HH : Hid (hopR c k s t = (#[.int .i64 (k : Int), .int .i64 M, .int .i64 (M + D), .int .i64 (M + D + c.rg)], true)) := Lib.hid (by rw [← hM, ← hD]; exact if_pos zz)
      have hpk : hpB cs node t s k = true := by unfold hpB; rw [HCK.out, HH.out]; simp [HCF.out]
      have HS2 : Hid ((pre ++ [(⟨k, hlt, hpk⟩ : Hx cs node t s)]).map (·.1) = hopsL cs node t s (k + 1)) := Lib.hid (by rw [hopsL_succ, List.map_append, HS.out, if_pos hpk]; rfl)
      have hpl : pre.length < cs.length := by
        have a1 := congrArg List.length HS2.out
        have a2 := hopsL_len cs node t s (k + 1)
        simp only [List.length_map, List.length_append, List.length_cons, List.length_nil] at a1
        omega
      have HHY := Lib.hid hY
      clear zz hM hD hY
      gi_wp2_with fail
      refine ⟨trivial, callsIn_wide.2 ((hop_any cs _ _ k c t s _ ⟨_, _, _, rfl⟩ HROW.out HKC.out hl HCC.out s1 hs t0 t1).mono ?_)⟩
      rw [HH.out]
      rintro e w2 ⟨rfl, hb2⟩
      have hsz2 : wr.heap.size + 1 ≤ w2.heap.size := by have := hb2.size; simpa using this
      have HJ2 : Hid (J pre w2) := Lib.hid (HBE _ _ _ hb2 (HAL _ _ _ HJk.out))
      have HK2 : Hid (KpX n₀ zx wr w2) := Lib.hid ⟨by omega, fun q hq _ => (hb2.block q (by simp; omega)).trans (Below.heap_alloc _ _ _ (by omega))⟩
      have hY2 := HHY.out pre ⟨k, hlt, hpk⟩ _ (HAL _ _ (.cells #[.int .i64 (k : Int), .int .i64 M, .int .i64 (M + D), .int .i64 (M + D + c.rg)] 38) HJ2.out) hpl
      simp only [HCK.out, HH.out] at hY2
      obtain ⟨fn, tmps, assign, body, hy, hR⟩ := hY2
      have HR := Lib.hid hR
      have cx := fun q => cellB (heap_new (W := w2) (o := .cells #[.int .i64 (k : Int), .int .i64 M, .int .i64 (M + D), .int .i64 (M + D + c.rg)] 38)) q
      clear hb2 hR hpl
      gi_wp2
      refine HR.out.mono ?_
      rintro e W3 (⟨rfl, hJ3, hk3⟩ | ⟨rfl, hJx3⟩)
      · gi_wp2
        go_roundw
        case rel => exact ⟨k + 1, _, by omega, by go_num, HS2, Lib.hid hJ3, hB.trans (HK2.out.trans (KpX.trans ⟨by simp, fun q hq _ => Below.heap_alloc _ _ _ (by omega)⟩ hk3))⟩
        case measure => simp [intOf]; omega
      · gi_wp2
        refine bodyPost_ret (results_none rfl _ _ _) rfl ?_
        exact ⟨⟨_, rfl⟩, .inr ⟨_, trivial, hJx3⟩⟩
    · obtain rfl : k = cs.length := by omega
      gi_wp2
      go_end0
      exact ⟨⟨_, rfl⟩, .inl ⟨pre, HS.out, HJk.out⟩⟩
end Go.Proofs.YtbpmccfbfpgijaaGreat
