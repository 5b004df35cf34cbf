/- TopMirrorTight: journey.hop (printed by gen/g22.py) -/
import Derived.BigQuiet
import Derived.BigRegion
import Derived.Deep.DeepCutAuto
import Derived.Lib.MinMax
import Derived.Test.YtbpmccfbfpgijaaGreatJt
import Derived.Test.YtbpmccfbfpgijaaGreatNf
set_option linter.unusedVariables false
set_option linter.unusedSimpArgs false
namespace Go.Proofs.YtbpmccfbfpgijaaGreat
open Go Go.RowKit Iv
attribute [local go_sem] Oper.semAt_some
attribute [local go_sem] B_getElem B_size B_app B_extract B_get B_toList
/-- the hop over the contact i, and whether there is one -/
def hopR (c : Con) (i : Nat) (s : Nat) (t : Int) : Array Value × Bool := if max t c.st ≤ c.en - durS c s then (#[.int .i64 i, .int .i64 (max t c.st), .int .i64 (max t c.st + durS c s), .int .i64 (max t c.st + durS c s + c.rg)], true) else (#[.int .i64 0, .int .i64 0, .int .i64 0, .int .i64 0], false)
set_option maxRecDepth 100000 in
set_option maxHeartbeats 4000000 in
theorem hop_any (cs : List Con) (uq uc : Value) (i : Nat) (c : Con) (t : Int) (s : Nat) (w : World) (hq : ∃ a n k, uq = .slice a n k) (hcs : RRow conC 7 w w.heap.size uc cs) (hi : cs[i]? = some c) (hl : cs.length ≤ 64) (hc : chkCon c = 0) (s1 : 1 ≤ s) (hs : s ≤ 65536) (t0 : 0 ≤ t) (t1 : t ≤ 1099511627776) :
    Calls Tryz.prog 74 #[.agg #[uq, uc], .int .i64 (i : Int), .int .i64 t, .int .i64 (s : Int)] w fun e w' => e = .returned (.tuple #[.agg (hopR c i s t).1, .bool (hopR c i s t).2]) ∧ Below w.heap.size w w' := by
  obtain ⟨qa, qn, qk, rfl⟩ := hq
  have hlt := (List.getElem?_eq_some_iff.1 hi).1
  obtain ⟨ac, cc, rfl, c1, c2, c3, c4⟩ := hcs
  obtain ⟨bb, o, rfl, hbn, hcell⟩ := c4 (by omega)
  unfold maxLen at c2
  have p0 : w.cell? ⟨bb, o + i * 7, none⟩ = some (.int .i64 c.fr) := hcell i c hi 0 _ rfl
  have p1 : w.cell? ⟨bb, o + i * 7 + 1, none⟩ = some (.int .i64 c.tt) := hcell i c hi 1 _ rfl
  have p2 : w.cell? ⟨bb, o + i * 7 + 2, none⟩ = some (.int .i64 c.st) := hcell i c hi 2 _ rfl
  have p3 : w.cell? ⟨bb, o + i * 7 + 3, none⟩ = some (.int .i64 c.en) := hcell i c hi 3 _ rfl
  have p4 : w.cell? ⟨bb, o + i * 7 + 4, none⟩ = some (.int .i64 c.ra) := hcell i c hi 4 _ rfl
  have p5 : w.cell? ⟨bb, o + i * 7 + 5, none⟩ = some (.int .i64 c.rg) := hcell i c hi 5 _ rfl
  have p6 : w.cell? ⟨bb, o + i * 7 + 6, none⟩ = some (.int .i64 c.lo) := hcell i c hi 6 _ rfl
  have hf := con_facts hc
  have hdb := durS_bnd hf (by omega : 0 < s) hs
  have f1 := hf.st0
  have f2 := hf.en0
  have f3 := hf.en1
  have f4 := hf.rg0
  have f5 := hf.rg1
  obtain ⟨D, hD⟩ : ∃ D, durS c s = D := ⟨_, rfl⟩
  rw [hD] at hdb
  obtain ⟨M, hM⟩ : ∃ M, max t c.st = M := ⟨_, rfl⟩
  have m0 : 0 ≤ M := by omega
  have m2 : M ≤ 1099511627776 := by omega
  have HC := Lib.hid hc
  have HD := Lib.hid hD
  have HM := Lib.hid hM
  have i0 : (0 : Int) ≤ (i : Int) := by omega
  have i1 : (i : Int) < (cs.length : Int) := by omega
  have hl2 : cs.length ≤ 9223372036854775807 := by omega
  obtain ⟨R, hR⟩ : ∃ R, hopR c i s t = R := ⟨_, rfl⟩
  have HR := Lib.hid hR
  rw [hR]
  clear hc hf hD hM hR hcell c3 c4 c1 c2 hi
  by_cases z : M ≤ c.en - D
  case pos =>
    have HB : Hid (begS c s t = (M, 0)) := Lib.hid (by unfold begS; rw [HM.out, HD.out, if_pos z])
    have HRR : Hid (R = (#[.int .i64 (i : Int), .int .i64 M, .int .i64 (M + D), .int .i64 (M + D + c.rg)], true)) := Lib.hid (by rw [← HR.out]; unfold hopR; rw [HM.out, HD.out, if_pos z])
    go_enter Tryz.func74, Tryz.ntmps74
    go_upto_region 2 with fail
    obtain ⟨w2, hw2⟩ : ∃ q, ((w.alloc (.cells #[.slice qa qn qk, .slice (some ⟨bb, o, none⟩) cs.length cc] 25)).alloc (.cells #[.int .i64 0, .int .i64 0, .int .i64 0, .int .i64 0] 38)).alloc (.cells #[.int .i64 c.fr, .int .i64 c.tt, .int .i64 c.st, .int .i64 c.en, .int .i64 c.ra, .int .i64 c.rg, .int .i64 c.lo] 58) = q := ⟨_, rfl⟩
    rw [hw2]
    have B2 : Below w.heap.size w w2 := by rw [← hw2]; exact belowA
    have XC2 : Hid (w2.heap[w.heap.size + 2]? = some (.cells #[.int .i64 c.fr, .int .i64 c.tt, .int .i64 c.st, .int .i64 c.en, .int .i64 c.ra, .int .i64 c.rg, .int .i64 c.lo] 58 (0, 0))) := Lib.hid (by rw [← hw2]; exact heap_new' (by simp))
    have XH2 : Hid (w2.heap[w.heap.size + 1]? = some (.cells #[.int .i64 0, .int .i64 0, .int .i64 0, .int .i64 0] 38 (0, 0))) := Lib.hid (by rw [← hw2]; exact (Below.heap_alloc _ _ _ (by simp)).trans (heap_new' (by simp)))
    have zc2 : w.heap.size + 2 < w2.heap.size := (Array.getElem?_eq_some_iff.1 XC2.out).1
    have cb := fun o => cellB XC2.out o
    clear hw2 p0 p1 p2 p3 p4 p5 p6
    go_wp2_with fail
    refine (Begin_ok c t s _ HC.out s1 hs t0 t1).mono ?_
    rw [HB.out]
    rintro e w3 ⟨rfl, hb3⟩
    have B3 : Below w.heap.size w w3 := btrans0 B2 hb3
    have XC3 : Hid (w3.heap[w.heap.size + 2]? = some (.cells #[.int .i64 c.fr, .int .i64 c.tt, .int .i64 c.st, .int .i64 c.en, .int .i64 c.ra, .int .i64 c.rg, .int .i64 c.lo] 58 (0, 0))) := Lib.hid ((hb3.block _ zc2).trans XC2.out)
    have XH3 : Hid (w3.heap[w.heap.size + 1]? = some (.cells #[.int .i64 0, .int .i64 0, .int .i64 0, .int .i64 0] 38 (0, 0))) := Lib.hid ((hb3.block _ (by omega)).trans XH2.out)
    have zc3 : w.heap.size + 2 < w3.heap.size := by have := hb3.size; omega
    clear hb3 cb
    have cb := fun o => cellB XC3.out o
    go_wp2_with fail
    refine (Dur_ok c s _ HC.out s1 hs).mono ?_
    rw [HD.out]
    rintro e w4 ⟨rfl, hb4⟩
    have B4 : Below w.heap.size w w4 := btrans0 B3 hb4
    have XC4 : Hid (w4.heap[w.heap.size + 2]? = some (.cells #[.int .i64 c.fr, .int .i64 c.tt, .int .i64 c.st, .int .i64 c.en, .int .i64 c.ra, .int .i64 c.rg, .int .i64 c.lo] 58 (0, 0))) := Lib.hid ((hb4.block _ zc3).trans XC3.out)
    have XH4 : Hid (w4.heap[w.heap.size + 1]? = some (.cells #[.int .i64 0, .int .i64 0, .int .i64 0, .int .i64 0] 38 (0, 0))) := Lib.hid ((hb4.block _ (by omega)).trans XH3.out)
    have zc4 : w.heap.size + 2 < w4.heap.size := by have := hb4.size; omega
    clear hb4 cb
    have cb := fun o => cellB XC4.out o
    go_wp2_with (refine wpList_store_block rfl 38 _ _ rfl (w.heap.size + 1) #[.int .i64 (i : Int), .int .i64 M, .int .i64 (M + D), .int .i64 (M + D + c.rg)] _ 38 rfl rfl XH4.out rfl (by kernel_rfl) (by simp [Value.oneCell']) ?_; intro wF hW hbW hsW hoW; have bF : Below w.heap.size w wF := B4.trans (hbW _ (by omega)); have zF : w.heap.size + 1 < wF.heap.size := (by rw [hsW]; omega); have cF := fun o => cellB hW o; clear hW hbW hsW hoW)
    refine bodyPost_ret (v := .tuple #[.agg #[.int .i64 (i : Int), .int .i64 M, .int .i64 (M + D), .int .i64 (M + D + c.rg)], .bool true]) (by simp [results, Tryz.results74, go_sem, World.cell?_setCell_same', cF, zF]) rfl ?_
    rw [HRR.out]
    exact ⟨rfl, bF⟩
  case neg =>
    have HB : Hid (begS c s t = (0, 16)) := Lib.hid (by unfold begS; rw [HM.out, HD.out, if_neg z])
    have HRR : Hid (R = (#[.int .i64 0, .int .i64 0, .int .i64 0, .int .i64 0], false)) := Lib.hid (by rw [← HR.out]; unfold hopR; rw [HM.out, HD.out, if_neg z])
    go_enter Tryz.func74, Tryz.ntmps74
    go_upto_region 2 with fail
    obtain ⟨w2, hw2⟩ : ∃ q, ((w.alloc (.cells #[.slice qa qn qk, .slice (some ⟨bb, o, none⟩) cs.length cc] 25)).alloc (.cells #[.int .i64 0, .int .i64 0, .int .i64 0, .int .i64 0] 38)).alloc (.cells #[.int .i64 c.fr, .int .i64 c.tt, .int .i64 c.st, .int .i64 c.en, .int .i64 c.ra, .int .i64 c.rg, .int .i64 c.lo] 58) = q := ⟨_, rfl⟩
    rw [hw2]
    have B2 : Below w.heap.size w w2 := by rw [← hw2]; exact belowA
    have XC2 : Hid (w2.heap[w.heap.size + 2]? = some (.cells #[.int .i64 c.fr, .int .i64 c.tt, .int .i64 c.st, .int .i64 c.en, .int .i64 c.ra, .int .i64 c.rg, .int .i64 c.lo] 58 (0, 0))) := Lib.hid (by rw [← hw2]; exact heap_new' (by simp))
    have XH2 : Hid (w2.heap[w.heap.size + 1]? = some (.cells #[.int .i64 0, .int .i64 0, .int .i64 0, .int .i64 0] 38 (0, 0))) := Lib.hid (by rw [← hw2]; exact (Below.heap_alloc _ _ _ (by simp)).trans (heap_new' (by simp)))
    have zc2 : w.heap.size + 2 < w2.heap.size := (Array.getElem?_eq_some_iff.1 XC2.out).1
    have cb := fun o => cellB XC2.out o
    clear hw2 p0 p1 p2 p3 p4 p5 p6
    go_wp2_with fail
    refine (Begin_ok c t s _ HC.out s1 hs t0 t1).mono ?_
    rw [HB.out]
    rintro e w3 ⟨rfl, hb3⟩
    have B3 : Below w.heap.size w w3 := btrans0 B2 hb3
    have XC3 : Hid (w3.heap[w.heap.size + 2]? = some (.cells #[.int .i64 c.fr, .int .i64 c.tt, .int .i64 c.st, .int .i64 c.en, .int .i64 c.ra, .int .i64 c.rg, .int .i64 c.lo] 58 (0, 0))) := Lib.hid ((hb3.block _ zc2).trans XC2.out)
    have XH3 : Hid (w3.heap[w.heap.size + 1]? = some (.cells #[.int .i64 0, .int .i64 0, .int .i64 0, .int .i64 0] 38 (0, 0))) := Lib.hid ((hb3.block _ (by omega)).trans XH2.out)
    have zc3 : w.heap.size + 2 < w3.heap.size := by have := hb3.size; omega
    clear hb3 cb
    have cb := fun o => cellB XC3.out o
    go_wp2_with (refine wpList_store_block rfl 38 _ _ rfl (w.heap.size + 1) #[.int .i64 0, .int .i64 0, .int .i64 0, .int .i64 0] _ 38 rfl rfl XH3.out rfl (by kernel_rfl) (by simp [Value.oneCell']) ?_; intro wF hW hbW hsW hoW; have bF : Below w.heap.size w wF := B3.trans (hbW _ (by omega)); have zF : w.heap.size + 1 < wF.heap.size := (by rw [hsW]; omega); have cF := fun o => cellB hW o; clear hW hbW hsW hoW)
    refine bodyPost_ret (v := .tuple #[.agg #[.int .i64 0, .int .i64 0, .int .i64 0, .int .i64 0], .bool false]) (by simp [results, Tryz.results74, go_sem, World.cell?_setCell_same', cF, zF]) rfl ?_
    rw [HRR.out]
    exact ⟨rfl, bF⟩
end Go.Proofs.YtbpmccfbfpgijaaGreat
