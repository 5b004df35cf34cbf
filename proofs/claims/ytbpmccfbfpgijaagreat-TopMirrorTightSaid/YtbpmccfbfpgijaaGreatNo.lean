/- TopMirrorTight: latest.times (printed by gen/g22.py) -/
import Derived.BigQuiet
import Derived.BigRegion
import Derived.Laws.EntriesVeiled
import Derived.Test.YtbpmccfbfpgijaaGreatNm
import Derived.Test.YtbpmccfbfpgijaaGreatNn
import Derived.Test.YtbpmccfbfpgijaaGreatMc
set_option linter.unusedVariables false
set_option linter.unusedSimpArgs false
namespace Go.Proofs.YtbpmccfbfpgijaaGreat
open Go Go.RowKit Iv
attribute [local go_sem] Oper.semAt_some
attribute [local go_sem] B_getElem B_size B_app B_extract B_get B_toList
attribute [local go_sem ↓] run_mkI
def TimesPost (cs : List Con) (n s dst : Nat) (D : Int) (w : World) (e : Ending) (w' : World) : Prop :=
  ∃ gt nt L, e = .returned (.slice (some ⟨gt, 0, none⟩) n nt) ∧ w.heap.size ≤ gt ∧ w'.heap[gt]? = some (.cells (L.map (Value.int .i64)).toArray 3 (0, 0)) ∧ Mt.LInv (dS s) dst D cs n L ∧ (∀ c ∈ cs, ¬ Mt.better (dS s) dst L c) ∧ Below w.heap.size w w'
theorem linv_start {cs : List Con} {n s dst : Nat} {D : Int} (h0 : 0 ≤ D) (hd : dst < n) : Mt.LInv (dS s) dst D cs n ((List.replicate n (-1 : Int)).set dst D) := by
  have hl : dst < (List.replicate n (-1 : Int)).length := by simpa using hd
  refine ⟨by simp, by rw [Mt.at_set _ _ _ _ hl, if_pos rfl], fun v => ?_, fun v => ?_, fun v hv h => ?_⟩
  · rw [Mt.at_set _ _ _ _ hl, Mt.at_rep]; split <;> omega
  · rw [Mt.at_set _ _ _ _ hl, Mt.at_rep]; split <;> omega
  · rw [Mt.at_set _ _ _ _ hl, if_neg hv, Mt.at_rep] at h; omega
theorem repS_set {n c : Nat} (h : c < n) : (repS n c).set c (-1) = repS n (c + 1) := by
  unfold repS
  obtain ⟨k, hk⟩ : ∃ k, n - c = k + 1 := ⟨n - c - 1, by omega⟩
  rw [List.set_append, if_neg (by simp), List.length_replicate, Nat.sub_self, hk, show n - (c + 1) = k by omega, List.replicate_succ, List.set_cons_zero, List.replicate_succ', List.append_assoc]
  rfl
set_option maxRecDepth 100000 in
set_option maxHeartbeats 4000000 in
theorem times_any (qa : Option Addr) (n qk : Nat) (uc : Value) (cs : List Con) (s dst : Nat) (D : Int) (w : World) (hrow : RRow conC 7 w w.heap.size uc cs) (hl : cs.length ≤ 64) (hn : n ≤ 16) (hdst : dst < n) (hD0 : 0 ≤ D) (hD1 : D ≤ 1099511627776) (s1 : 1 ≤ s) (hs : s ≤ 65536) (hcs : ∀ c ∈ cs, chkCon c = 0 ∧ c.fr < n ∧ c.tt < n) :
    Calls Tryz.prog 15 #[.agg #[.slice qa n qk, uc], .int .i64 (dst : Int), .int .i64 D, .int .i64 (s : Int)] w (TimesPost cs n s dst D w) := by
  have HROW := Lib.hid hrow
  have HCS := Lib.hid hcs
  have hn64 : n ≤ 64 := by omega
  have n0 : (0 : Int) ≤ (n : Int) := by omega
  have d0 : (0 : Int) ≤ (dst : Int) := by omega
  have d1 : (dst : Int) < (n : Int) := by omega
  obtain ⟨ac, cc, rfl, r1, r2, r3, r4⟩ := hrow
  clear hcs r1 r2 r3 r4
  go_enter Tryz.func15, Tryz.ntmps15
  go_upto_region 1 with fail
  go_wp2_with fail
  obtain ⟨W1, hW1⟩ : ∃ q, ((((w.alloc (.cells #[.slice qa n qk, .slice ac cs.length cc] 25)).alloc (.cells #[.int .i64 (dst : Int)] 3)).alloc (.cells #[.int .i64 (s : Int)] 3)).alloc (.cells (Array.replicate n (Value.int .i64 0)) 3)).alloc (.cells #[.slice (some ⟨w.heap.size + 1 + 1 + 1, 0, none⟩) n n] 22) = q := ⟨_, rfl⟩
  rw [hW1]
  have B1 : Below w.heap.size w W1 := by rw [← hW1]; exact belowA
  have X1 : W1.heap[w.heap.size]? = some (.cells #[.slice qa n qk, .slice ac cs.length cc] 25 (0, 0)) := by rw [← hW1]; exact (by repeat (first | exact heap_new' (by first | rfl | (simp; done)) | refine (Below.heap_alloc _ _ _ (by first | (simp; done) | (simp; omega))).trans ?_))
  have X2 : W1.heap[w.heap.size + 1]? = some (.cells #[.int .i64 (dst : Int)] 3 (0, 0)) := by rw [← hW1]; exact (by repeat (first | exact heap_new' (by first | rfl | (simp; done)) | refine (Below.heap_alloc _ _ _ (by first | (simp; done) | (simp; omega))).trans ?_))
  have X3 : W1.heap[w.heap.size + 1 + 1]? = some (.cells #[.int .i64 (s : Int)] 3 (0, 0)) := by rw [← hW1]; exact (by repeat (first | exact heap_new' (by first | rfl | (simp; done)) | refine (Below.heap_alloc _ _ _ (by first | (simp; done) | (simp; omega))).trans ?_))
  have X4 : W1.heap[w.heap.size + 1 + 1 + 1]? = some (.cells (Array.replicate n (Value.int .i64 0)) 3 (0, 0)) := by rw [← hW1]; exact (by repeat (first | exact heap_new' (by first | rfl | (simp; done)) | refine (Below.heap_alloc _ _ _ (by first | (simp; done) | (simp; omega))).trans ?_))
  have X5 : W1.heap[w.heap.size + 1 + 1 + 1 + 1]? = some (.cells #[.slice (some ⟨w.heap.size + 1 + 1 + 1, 0, none⟩) n n] 22 (0, 0)) := by rw [← hW1]; exact (by repeat (first | exact heap_new' (by first | rfl | (simp; done)) | refine (Below.heap_alloc _ _ _ (by first | (simp; done) | (simp; omega))).trans ?_))
  have Z1 : W1.heap.size = w.heap.size + 5 := by rw [← hW1]; simp
  obtain ⟨ob, hob⟩ : ∃ q, w.heap.size + 1 + 1 + 1 + 1 = q := ⟨_, rfl⟩
  rw [hob] at X5 ⊢
  obtain ⟨gt, hgt⟩ : ∃ q, w.heap.size + 1 + 1 + 1 = q := ⟨_, rfl⟩
  rw [hgt] at X4 X5 ⊢
  obtain ⟨sB, hsB⟩ : ∃ q, w.heap.size + 1 + 1 = q := ⟨_, rfl⟩
  rw [hsB] at X3 ⊢
  obtain ⟨dB, hdB⟩ : ∃ q, w.heap.size + 1 = q := ⟨_, rfl⟩
  rw [hdB] at X2 ⊢
  have o1 : w.heap.size < dB := by omega
  have o2 : dB < sB := by omega
  have o3 : sB < gt := by omega
  have o4 : gt < ob := by omega
  have o5 : ob < W1.heap.size := by omega
  have HX1 := Lib.hid X1
  have HX2 := Lib.hid X2
  have HX3 := Lib.hid X3
  have HX4 : Hid (W1.heap[gt]? = some (.cells ((repS n 0).map (Value.int .i64)).toArray 3 (0, 0))) := Lib.hid (by rw [X4, repS_zero, List.map_replicate, List.toArray_replicate])
  have HX5 := Lib.hid X5
  have HB1 := Lib.hid B1
  clear X1 X2 X3 X4 X5 B1 hW1 Z1 hob hgt hsB hdB
  go_loopw [18] (fun kv wr => ∃ k : Nat, k ≤ n ∧ kv = .int .i64 (k : Int) ∧ Hid (wr.heap[gt]? = some (.cells ((repS n k).map (Value.int .i64)).toArray 3 (0, 0))) ∧ Hid (Oth gt W1 wr) ∧ Hid (Below w.heap.size w wr)) (fun kv _ => n - (intOf kv).toNat)
  case atStart => exact ⟨0, Nat.zero_le _, rfl, HX4, Lib.hid ⟨Nat.le_refl _, fun _ _ _ => rfl⟩, HB1⟩
  case round =>
    obtain ⟨k, hk, rfl, HG, HO, HB⟩ := hrel
    have HO5 : Hid (wr.heap[ob]? = some (.cells #[.slice (some ⟨gt, 0, none⟩) n n] 22 (0, 0))) := Lib.hid ((HO.out.2 _ o5 (by omega)).trans HX5.out)
    have co := cellB HO5.out 0
    by_cases hlt : k < n
    · have k0 : (0 : Int) ≤ (k : Int) := by omega
      have k1 : (k : Int) < (n : Int) := by omega
      have fk := frozenB HG.out k
      have ck : (wr.cell? ⟨gt, k, none⟩).isSome = true := by rw [cellB HG.out]; unfold repS; simp; omega
      have HS : Hid ((wr.setCell ⟨gt, k, none⟩ (.int .i64 (-1))).heap[gt]? = some (.cells ((repS n (k + 1)).map (Value.int .i64)).toArray 3 (0, 0))) := Lib.hid (by rw [setB HG.out k (.int .i64 (-1)), ← repS_set hlt]; simp)
      obtain ⟨x, hx⟩ := Option.isSome_iff_exists.1 ck
      clear ck
      go_wp2
      go_roundw
      case rel => exact ⟨k + 1, by omega, by go_num, HS, Lib.hid (HO.out.trans ⟨by simp, fun q _ hne => Below.heap_setCell _ _ _ _ hne⟩), Lib.hid (bset HB.out (by show w.heap.size ≤ gt; omega))⟩
      case measure => simp [intOf]; omega
    · obtain rfl : k = n := by omega
      have HR : Hid (repS k k = List.replicate k (-1)) := Lib.hid (by unfold repS; simp)
      rw [HR.out] at HG
      have fk := frozenB HG.out dst
      have ck : wr.cell? ⟨gt, dst, none⟩ = some (.int .i64 (-1)) := by rw [cellB HG.out]; simp [List.getElem?_replicate, hdst]
      have hdb : wr.heap[dB]? = some (.cells #[.int .i64 (dst : Int)] 3 (0, 0)) := (HO.out.2 _ (by omega) (by omega)).trans HX2.out
      have cd := cellB hdb 0
      have HDB := Lib.hid hdb
      clear hdb
      go_upto_region 8 with fail
      have HSET := setB HG.out dst (.int .i64 D)
      obtain ⟨W2, hW2⟩ : ∃ q, wr.setCell ⟨gt, dst, none⟩ (.int .i64 D) = q := ⟨_, rfl⟩
      rw [hW2] at HSET ⊢
      have O2 : Oth gt W1 W2 := by rw [← hW2]; exact HO.out.trans ⟨by simp, fun q _ hne => Below.heap_setCell _ _ _ _ hne⟩
      have B2 : Below w.heap.size w W2 := by rw [← hW2]; exact bset HB.out (by show w.heap.size ≤ gt; omega)
      have z2 : ob < W2.heap.size := by have := O2.1; omega
      have HG2 : Hid (W2.heap[gt]? = some (.cells (((List.replicate k (-1 : Int)).set dst D).map (Value.int .i64)).toArray 3 (0, 0))) := Lib.hid (by rw [HSET, List.map_set, List.setIfInBounds_toArray])
      have HO2 := Lib.hid O2
      have HB2 := Lib.hid B2
      clear hW2 O2 B2 HSET fk ck cd co HDB
      go_upto_region 10 with fail
      obtain ⟨W3, hW3⟩ : ∃ q, W2.alloc (.cells #[.func (.func 37) #[] #[.pointer (some ⟨w.heap.size, 0, none⟩), .pointer (some ⟨ob, 0, none⟩), .pointer (some ⟨sB, 0, none⟩), .pointer (some ⟨dB, 0, none⟩), .pointer (some ⟨W2.heap.size, 0, none⟩)]] 95) = q := ⟨_, rfl⟩
      rw [hW3]
      have K3 : Below W2.heap.size W2 W3 := by rw [← hW3]; exact balloc0 (Below.refl _ _)
      have Y1 : W3.heap[W2.heap.size]? = some (.cells #[.func (.func 37) #[] #[.pointer (some ⟨w.heap.size, 0, none⟩), .pointer (some ⟨ob, 0, none⟩), .pointer (some ⟨sB, 0, none⟩), .pointer (some ⟨dB, 0, none⟩), .pointer (some ⟨W2.heap.size, 0, none⟩)]] 95 (0, 0)) := by rw [← hW3]; exact heap_new
      obtain ⟨iB, hiB⟩ : ∃ q, W2.heap.size = q := ⟨_, rfl⟩
      rw [hiB] at K3 Y1 z2 ⊢
      have zt : gt < iB := by omega
      have lB : ∀ q, q < iB → W3.heap[q]? = W2.heap[q]? := fun q hq => K3.block q hq
      have HO2' : ∀ q, q < W1.heap.size → q ≠ gt → W3.heap[q]? = W1.heap[q]? := fun q hq hne => (lB q (by have := HO2.out.1; omega)).trans (HO2.out.2 q hq hne)
      have zi : iB < W3.heap.size := (Array.getElem?_eq_some_iff.1 Y1).1
      have IS3 : IS W3 w.heap.size ob sB dB iB gt k k qa k qk (.slice ac cs.length cc) cs s dst :=
        ⟨(HO2' _ (by omega) (by omega)).trans HX1.out, (HO2' _ (by omega) (by omega)).trans HX3.out, (HO2' _ (by omega) (by omega)).trans HX2.out, Y1,
          HROW.out.below (C := w.heap.size) ((HB2.out).trans (K3.mono (by omega))) (Nat.le_refl _) (by omega),
          fun hp a n' c' e => by
            obtain ⟨a', cc', e2, _, _, _, h4⟩ := HROW.out
            obtain ⟨b, o, rfl, hb, _⟩ := h4 hp
            rw [e2] at e
            injection e with e
            injection e with e
            subst e
            show b ≠ gt
            omega,
          by omega, by omega, by omega, by omega, by omega⟩
      have LB3 : LB W3 ob gt k k ((List.replicate k (-1 : Int)).set dst D) := ⟨(HO2' _ (by omega) (by omega)).trans HX5.out, (lB _ zt).trans HG2.out, by simp⟩
      have HIS := Lib.hid IS3
      have HLB := Lib.hid LB3
      have B3 : Below w.heap.size w W3 := (HB2.out).trans (K3.mono (by omega))
      have HB3 := Lib.hid B3
      have ci := cellB Y1 0
      clear hW3 K3 Y1 hiB lB HO2' IS3 LB3 B3
      go_wp2_with fail
      refine (improve_any w.heap.size ob sB dB iB gt k k qa k qk (.slice ac cs.length cc) cs s dst D hl hn hdst hD0 hD1 s1 hs HCS.out _ _ _ (Nat.le_refl _) HIS.out HLB.out (linv_start hD0 hdst)).mono ?_
      unfold ImpPost
      rintro e w4 ⟨⟨r, rfl⟩, L', g1, g2, g3, g4, g5⟩
      have HL4 := Lib.hid g1
      have cl := cellB g1.1 0
      have HI4 := Lib.hid g2
      have HN4 := Lib.hid g3
      have B4 := Lib.hid (HB3.out.trans (g5 w.heap.size (by omega)))
      clear g1 g2 g3 g4 g5
      go_wp2
      go_ret
      exact ⟨gt, k, L', rfl, by omega, HL4.out.2.1, HI4.out, HN4.out, B4.out⟩
end Go.Proofs.YtbpmccfbfpgijaaGreat
