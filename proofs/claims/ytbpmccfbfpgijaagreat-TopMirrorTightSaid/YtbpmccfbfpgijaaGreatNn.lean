/- TopMirrorTight: make of numbers and flags; Mul64 (printed by gen/g22.py) -/
import Derived.BigQuiet
import Derived.BigRegion
import Derived.Deep.RegionLaw
import Derived.Laws.MakeOwn
import Derived.Laws.CopyOwn
import Derived.Test.YtbpmccfbfpgijaaGreatJk
import Derived.Test.YtbpmccfbfpgijaaGreatNf
set_option linter.unusedVariables false
set_option linter.unusedSimpArgs false
namespace Go.Proofs.YtbpmccfbfpgijaaGreat
open Go Go.RowKit Iv
attribute [local go_sem] Oper.semAt_some
attribute [local go_sem] B_getElem B_size B_app B_extract B_get B_toList
theorem infoI : (Tryz.prog.info? 3).map (fun i => (i.zero, i.size, i.bytes)) = some (some (.int .i64 0), 1, 8) := by kernel_rfl
theorem infoBo : (Tryz.prog.info? 4).map (fun i => (i.zero, i.size, i.bytes)) = some (some (.bool false), 1, 1) := by kernel_rfl
theorem run_mkI (n : Nat) (w : World) (hn : n ≤ 64) : Sem.run Tryz.prog (Instr.makeSlice 22 (.int .i64 (n : Int)) (.int .i64 (n : Int))) w = .ok (.slice (some ⟨w.heap.size, 0, none⟩) n n) (w.alloc (.cells ((List.replicate n (0 : Int)).map (Value.int .i64)).toArray 3)) := by
  obtain ⟨i0, hin, hz0, hz1, hz2⟩ := info_parts infoI
  have h := run_make (P := Tryz.prog) w 22 3 i0 _ Tryz.underlying22 hin hz0 .i64 .i64 n n (by omega) (Int.le_refl _) (by rw [hz2]; omega) (by omega)
  have e : madeCells (Value.int .i64 0).cells (n * i0.size) = ((List.replicate n (0 : Int)).map (Value.int .i64)).toArray := by
    apply Array.toList_inj.1
    rw [hz1, Nat.mul_one]
    show (madeCells #[.int .i64 0] n).toList = _
    rw [toList_madeCells_one]
    simp
  simp only [Int.toNat_natCast] at h
  rw [e] at h
  exact h
theorem run_mkB (n : Nat) (w : World) (hn : n ≤ 64) : Sem.run Tryz.prog (Instr.makeSlice 89 (.int .i64 (n : Int)) (.int .i64 (n : Int))) w = .ok (.slice (some ⟨w.heap.size, 0, none⟩) n n) (w.alloc (.cells ((List.replicate n false).map Value.bool).toArray 4)) := by
  obtain ⟨i0, hin, hz0, hz1, hz2⟩ := info_parts infoBo
  have h := run_make (P := Tryz.prog) w 89 4 i0 _ Tryz.underlying89 hin hz0 .i64 .i64 n n (by omega) (Int.le_refl _) (by rw [hz2]; omega) (by omega)
  have e : madeCells (Value.bool false).cells (n * i0.size) = ((List.replicate n false).map Value.bool).toArray := by
    apply Array.toList_inj.1
    rw [hz1, Nat.mul_one]
    show (madeCells #[.bool false] n).toList = _
    rw [toList_madeCells_one]
    simp
  simp only [Int.toNat_natCast] at h
  rw [e] at h
  exact h
theorem mul64_1 (n : Int) (w : World) (h0 : 0 ≤ n) (h1 : n ≤ 16) : Calls Tryz.prog 112 #[.int .u64 1, .int .u64 n] w fun e w' => e = .returned (.tuple #[.int .u64 0, .int .u64 n]) ∧ w' = w := by
  have h : n = 0 ∨ n = 1 ∨ n = 2 ∨ n = 3 ∨ n = 4 ∨ n = 5 ∨ n = 6 ∨ n = 7 ∨ n = 8 ∨ n = 9 ∨ n = 10 ∨ n = 11 ∨ n = 12 ∨ n = 13 ∨ n = 14 ∨ n = 15 ∨ n = 16 := by omega
  clear h0 h1
  rcases h with rfl | rfl | rfl | rfl | rfl | rfl | rfl | rfl | rfl | rfl | rfl | rfl | rfl | rfl | rfl | rfl | rfl
  all_goals (
    go_enter Tryz.func112, Tryz.ntmps112
    go_wp2
    go_ret2
    exact ⟨rfl, rfl⟩)
theorem mul_1 (n : Int) (w : World) (h0 : 0 ≤ n) (h1 : n ≤ 16) : Calls Tryz.prog 72 #[.int .u64 1, .int .u64 n] w fun e w' => e = .returned (.tuple #[.int .u64 0, .int .u64 n]) ∧ w' = w := by
  go_enter Tryz.func72, Tryz.ntmps72
  go_wp2_with fail
  refine (mul64_1 n _ h0 h1).mono ?_
  rintro e w2 ⟨rfl, rfl⟩
  go_wp2
  go_ret2
  exact ⟨rfl, rfl⟩
attribute [local go_sem ↓] run_mkI run_mkB
set_option linter.unusedVariables false
def repS (n c : Nat) : List Int := List.replicate c (-1) ++ List.replicate (n - c) 0
theorem repS_zero (n : Nat) : repS n 0 = List.replicate n 0 := by unfold repS; simp
theorem repS_len {n c : Nat} : (repS n c).length = c + (n - c) := by unfold repS; simp
theorem splice_rep {n c m : Nat} (h : c + m ≤ n) : splice ((repS n c).map (Value.int .i64)) c (List.replicate m (Value.int .i64 (-1))) = (repS n (c + m)).map (Value.int .i64) := by
  have e1 : (repS n c).map (Value.int .i64) = List.replicate c (Value.int .i64 (-1)) ++ List.replicate (n - c) (Value.int .i64 0) := by unfold repS; simp
  have e2 : (repS n (c + m)).map (Value.int .i64) = List.replicate (c + m) (Value.int .i64 (-1)) ++ List.replicate (n - (c + m)) (Value.int .i64 0) := by unfold repS; simp
  rw [e1, e2]
  unfold splice
  rw [List.take_append_of_le_length (by simp), List.take_of_length_le (by simp), List.drop_append, List.drop_of_length_le (by simp), List.nil_append, List.length_replicate, List.length_replicate, List.drop_replicate, ← List.append_assoc, List.replicate_append_replicate, show n - c - (c + m - c) = n - (c + m) by omega]
set_option maxRecDepth 100000 in
set_option maxHeartbeats 4000000 in
theorem repeat_any (n : Nat) (sb so sc : Nat) (w : World) (hn : n ≤ 16) (hn1 : 1 ≤ n) (hc : w.cell? ⟨sb, so, none⟩ = some (.int .i64 (-1))) (hs : sb < w.heap.size) (hsc : 1 ≤ sc) (hsc2 : sc ≤ maxLen) :
    Calls Tryz.prog 34 #[.slice (some ⟨sb, so, none⟩) 1 sc, .int .i64 (n : Int)] w fun e w' => e = .returned (.slice (some ⟨w.heap.size, 0, none⟩) n n) ∧ w'.heap[w.heap.size]? = some (.cells ((List.replicate n (-1 : Int)).map (Value.int .i64)).toArray 3 (0, 0)) ∧ Below w.heap.size w w' := by
  have n0 : (0 : Int) ≤ (n : Int) := by omega
  have n1 : ¬ (n : Int) < 0 := by omega
  have wn : IntKind.u64.wrap (n : Int) = (n : Int) := by rw [IntKind.wrap_u64]; omega
  unfold maxLen at hsc2
  go_enter Tryz.func34, Tryz.ntmps34
  go_upto_region 3 with fail
  go_wp2_with fail
  refine (mul_1 n _ n0 (by omega)).mono ?_
  rintro e w2 ⟨rfl, rfl⟩
  have hgt : ¬ (9223372036854775807 : Int) < (n : Int) := by omega
  have hn64 : n ≤ 64 := by omega
  go_upto_region 7 with fail
  generalize decide ((9223372036854775807 : Int) < (n : Int)) = D0
  obtain ⟨W1, hW1⟩ : ∃ q, w2.alloc (.cells (Array.replicate n (Value.int .i64 0)) 3) = q := ⟨_, rfl⟩
  rw [hW1]
  have G1 : Hid (W1.heap[w2.heap.size]? = some (.cells ((repS n 0).map (Value.int .i64)).toArray 3 (0, 0))) := Lib.hid (by rw [← hW1, repS_zero, List.map_replicate, List.toArray_replicate]; exact heap_new)
  have B1 : Below w2.heap.size w2 W1 := by rw [← hW1]; exact balloc0 (Below.refl _ _)
  have z1 : W1.heap.size = w2.heap.size + 1 := by rw [← hW1]; simp
  have s1 : W1.cell? ⟨sb, so, none⟩ = some (.int .i64 (-1)) := (B1.cell (p := ⟨sb, so, none⟩) hs).trans hc
  obtain ⟨g, hg⟩ : ∃ q, w2.heap.size = q := ⟨_, rfl⟩
  rw [hg] at G1 B1 z1 hs ⊢
  obtain ⟨MI, hMI⟩ : ∃ q, [Value.int .i64 (-1)] = q := ⟨_, rfl⟩
  have hMl : MI.length = 1 := by rw [← hMI]; rfl
  have hM1 : ∀ v ∈ MI, v.oneCell' = true := by rw [← hMI]; simp [Value.oneCell']
  have hM0 : ∀ j v, MI[j]? = some v → W1.cell? ((⟨sb, so, none⟩ : Addr).add j) = some v := fun j v hv => by
    rw [← hMI] at hv
    match j with
    | 0 => injection hv with hv; subst hv; exact s1
    | j + 1 => cases hv
  have hsp : splice ((repS n 0).map (Value.int .i64)) 0 MI = (repS n 1).map (Value.int .i64) := by
    rw [← hMI]; exact splice_rep (n := n) (c := 0) (m := 1) (by omega)
  have HSP := Lib.hid hsp
  have HZ := Lib.hid z1
  clear hW1 hsp hMI z1
  go_wp2_with (refine wpList_copy_splice rfl (.tmp 31) (.tmp 32) 22 22 rfl 3 Tryz.underlying22 (by kernel_rfl) (some ⟨g, 0, none⟩) (some ⟨sb, so, none⟩) n n 1 sc rfl rfl g 0 ((repS n 0).map (Value.int .i64)) 3 G1.out MI (by rw [hMl]; exact (Nat.min_eq_left (by omega)).symm) (fun _ => ⟨rfl, _, rfl, hM0⟩) (by rw [hMl, List.length_map, repS_len]; omega) hM1 g w2 B1 (Nat.le_refl _) ?_; intro w4 hg4 hb4; (try rw [hMl]))
  rw [HSP.out] at hg4
  have z4 : g < w4.heap.size := (Array.getElem?_eq_some_iff.1 hg4.out).1
  have HS4 := Lib.hid hb4
  clear hMl hM1 hM0 hb4
  go_wp2_with fail
  go_loopw [8] (fun cv wr => ∃ c : Nat, 1 ≤ c ∧ c ≤ n ∧ cv = .int .i64 (c : Int) ∧ Hid (wr.heap[g]? = some (.cells ((repS n c).map (Value.int .i64)).toArray 3 (0, 0))) ∧ Hid (Below g w2 wr)) (fun cv _ => n - (intOf cv).toNat)
  case atStart => exact ⟨1, Nat.le_refl _, hn1, rfl, hg4, HS4⟩
  case round =>
    obtain ⟨c, c1, c2, rfl, HG, HB⟩ := hrel
    by_cases hlt : c < n
    · obtain ⟨m, hm⟩ : ∃ q, Nat.min c (n - c) = q := ⟨_, rfl⟩
      have hm1 : m ≤ n - c := by rw [← hm]; exact Nat.min_le_right _ _
      have hm2 : m ≤ c := by rw [← hm]; exact Nat.min_le_left _ _
      have hm3 : 1 ≤ m := by rw [← hm]; exact Nat.le_min.2 ⟨by omega, by omega⟩
      obtain ⟨MI, hMI⟩ : ∃ q, List.replicate m (Value.int .i64 (-1)) = q := ⟨_, rfl⟩
      have hMl : MI.length = m := by rw [← hMI]; simp
      have hM1 : ∀ v ∈ MI, v.oneCell' = true := fun v hv => by rw [← hMI] at hv; rw [List.eq_of_mem_replicate hv]; rfl
      have HSP : Hid (splice ((repS n c).map (Value.int .i64)) c MI = (repS n (c + m)).map (Value.int .i64)) := Lib.hid (by rw [← hMI]; exact splice_rep (by omega))
      have HM0 : Hid (∀ j v, MI[j]? = some v → wr.cell? ((⟨g, 0, none⟩ : Addr).add j) = some v) := Lib.hid (fun j v hv => by
        rw [← hMI] at hv
        obtain ⟨hj, e⟩ := List.getElem?_eq_some_iff.1 hv
        rw [List.length_replicate] at hj
        rw [List.getElem_replicate] at e
        subst e
        rw [addN, Nat.zero_add, cellB HG.out]
        unfold repS
        simp [List.getElem?_append, show j < c by omega])
      have HM := Lib.hid hm
      have k0 : (0 : Int) ≤ (c : Int) := by omega
      have k1 : (c : Int) ≤ (n : Int) := by omega
      have k2 : (c : Int) < (n : Int) := by omega
      have k3 : ¬ n = c := by omega
      have e1 : IntKind.i64.wrap ((c : Int) + (m : Int)) = (c : Int) + (m : Int) := by rw [IntKind.wrap_i64]; omega
      clear hm hMI
      go_wp2_with fail
      go_region_law (refine step_copy_splice rfl (.tmp 41) (.tmp 44) 22 22 rfl 3 Tryz.underlying22 (by kernel_rfl) (some ⟨g, c, none⟩) (some ⟨g, 0, none⟩) (n - c) (n - c) c n (by simp [Act.eval, Act.put]) (by simp [Act.eval, Act.put]) g c ((repS n c).map (Value.int .i64)) 3 HG.out MI (by rw [hMl]; exact HM.out.symm) (fun _ => ⟨rfl, _, rfl, HM0.out⟩) (by rw [hMl, List.length_map, repS_len]; omega) hM1 g w2 (bdrew HB.out) (Nat.le_refl _) ?_; intro w4 hg4 hb4; (try rw [hMl]))
      rw [HSP.out] at hg4
      have HB4 := Lib.hid hb4
      clear hb4 HM0
      go_simp
      refine ⟨?_, ?measure⟩
      (repeat apply Exists.intro)
      refine ⟨?rel, rfl⟩
      case rel => exact ⟨c + m, by omega, by omega, by go_num, hg4, HB4⟩
      case measure => simp [intOf]; omega
    · obtain rfl : c = n := by omega
      have HE : Hid (repS c c = List.replicate c (-1)) := Lib.hid (by unfold repS; simp)
      rw [HE.out] at HG
      go_wp2
      go_ret
      rw [hg]
      exact ⟨rfl, HG.out, HB.out⟩
end Go.Proofs.YtbpmccfbfpgijaaGreat
