/- Joined by port.py: XSh -/
import Derived.Shelf.Abstract
import Derived.Shelf.RegionOpen
import Derived.OwnWalkIn
import Derived.TacticsInMore
import Derived.LoopNIn
import Derived.LoopIn
import Derived.BigRegionIn
import Derived.Test.YtmknchdciblfjaaGreatSz
import Derived.Test.YtmknchdciblfjaaGreatJa
import Derived.Test.YtmknchdciblfjaaGreatJb
import Derived.Test.YtmknchdciblfjaaGreatJd
import Derived.Test.YtmknchdciblfjaaGreatJe
import Derived.Test.YtmknchdciblfjaaGreatJh
import Derived.Test.YtmknchdciblfjaaGreatJo
import Derived.Test.YtmknchdciblfjaaGreatJp
import Derived.Test.YtmknchdciblfjaaGreatKaz
import Derived.Test.YtmknchdciblfjaaGreatJv
import Derived.Test.YtmknchdciblfjaaGreatJw
import Derived.Test.YtmknchdciblfjaaGreatKd
import Derived.Test.YtmknchdciblfjaaGreatKe
import Derived.Test.YtmknchdciblfjaaGreatSb
set_option linter.unusedVariables false
set_option linter.unusedSimpArgs false
/-! XSh -/
namespace Go.Proofs.YtmknchdciblfjaaGreat
open Go Go.RowKit Iv
attribute [local go_sem] Oper.semAt_some
attribute [local go_sem] B_getElem B_size B_app B_extract B_get B_toList
open Go.Shelf
def encQ (p : Pt) : Array Value := #[.int .i64 p.1, .agg #[.bool p.2.1, .bool p.2.2]]
def okQ (pre : List Pt) (x : Pt) (W0 W : World) : Prop := pre.length ≤ 10000
/-- the steps of the iterator: into its own sides -/
def StQ (n : Nat) (A C : World) : Prop := SdSteps A C ∧ ∀ q, q < n → C.heap[q]? = A.heap[q]?
/-- what a round keeps: all below n, and the sides -/
def KpQ (n : Nat) (A C : World) : Prop := A.heap.size ≤ C.heap.size ∧ (∀ q, q < n → C.heap[q]? = A.heap[q]?) ∧ ∀ (q : Nat) (cs : Array Value) (f : Nat × Nat), A.heap[q]? = some (Obj.cells cs 348 f) → C.heap[q]? = A.heap[q]?
def PTS (a b : List Sp) : List Pt := pts (2 * a.length + 2 * b.length) (a, false) (b, false)
theorem StQ.low {n : Nat} {A C : World} (h : Below A.heap.size A C) (hn : n ≤ A.heap.size) : StQ n A C := ⟨.low (.refl _) h, fun q hq => h.block q (by omega)⟩
theorem RSps.kept {w w' : World} {N : Nat} {v : Value} {l : List Sp} (h : RSps w N v l) (k : ∀ q, q < N → w'.heap[q]? = w.heap[q]?) : RSps w' N v l := h.keep (fun b o hb => World.cell?_of_block (k b hb)) (Nat.le_refl _)
theorem RSps.wide {w : World} {N M : Nat} {v : Value} {l : List Sp} (h : RSps w N v l) (k : N ≤ M) : RSps w M v l := h.keep (fun b o hb => rfl) k
theorem SdOk.wide {w : World} {N M : Nat} {v : Value} {l : List Sp} {k : Nat} {i : Bool} (h : SdOk w N v l k i) (hM : N ≤ M) : SdOk w M v l k i := ⟨h.row.wide hM, h.le, h.lt⟩
theorem SdOk.kept {w w' : World} {N : Nat} {v : Value} {l : List Sp} {k : Nat} {i : Bool} (h : SdOk w N v l k i) (hk : ∀ q, q < N → w'.heap[q]? = w.heap[q]?) : SdOk w' N v l k i := ⟨h.row.kept hk, h.le, h.lt⟩
def wA (n k : Nat) (i : Bool) : Nat := 2 * (n - k) - (if i = true then 1 else 0)
def sdM (W : World) (s n : Nat) : Nat := match W.cell? ⟨s, 1, none⟩, W.cell? ⟨s, 2, none⟩ with
  | some (.int _ k), some (.bool i) => wA n k.toNat i
  | _, _ => 0
theorem sdM_blk {W : World} {s n k : Nat} {i : Bool} {v : Value} (h : SdBlk W s v k i) : sdM W s n = wA n k i := by
  unfold sdM
  have h : W.heap[s]? = some (.cells (sdC v k i) 348 (0, 0)) := h
  rw [cellB h 1, cellB h 2]
  simp [sdC]
theorem wA_pass {l : List Sp} {k : Nat} {i : Bool} {t : Int} (h : nxt (l.drop k, i) = some t) : wA l.length (passA l k i t).1 (passA l k i t).2 < wA l.length k i := by
  have hl := nxt_some_lt h
  unfold passA
  rw [if_pos h]
  cases i <;> simp [wA] <;> omega
theorem wA_le (l : List Sp) (k : Nat) (i : Bool) (t : Int) : wA l.length (passA l k i t).1 (passA l k i t).2 ≤ wA l.length k i := by
  by_cases h : nxt (l.drop k, i) = some t
  · exact Nat.le_of_lt (wA_pass h)
  · unfold passA; rw [if_neg h]; exact Nat.le_refl _
theorem pts_none {f : Nat} {a b : Sd} (h : tmin (nxt a) (nxt b) = none) : pts f a b = [] := by
  cases f with
  | zero => rfl
  | succ f => unfold pts; rw [h]
theorem pts_some {f : Nat} {a b : Sd} {t : Int} (h : tmin (nxt a) (nxt b) = some t) : pts (f + 1) a b = (t, (pass a t).2, (pass b t).2) :: pts f (pass a t) (pass b t) := by
  rw [pts]; rw [h]
theorem nxt_val {s : Sd} {V : Int} {E : Bool} (h1 : nxtV s = V) (h2 : nxtB s = E) : nxt s = if E = true then some V else none := by
  rw [← h1, ← h2]
  unfold nxtV nxtB
  cases nxt s <;> rfl
/-- the state of the iterator between two rounds -/
structure sPSt (a b : List Sp) (va vb : Value) (n sx sy : Nat) (J : List Pt → World → Prop) (pre : List Pt) (f ax ay : Nat) (ix iy : Bool) (wr : World) : Prop where
  rest : PTS a b = pre ++ pts f (a.drop ax, ix) (b.drop ay, iy)
  len : pre.length + f = 2 * a.length + 2 * b.length
  j : J pre wr
  bx : SdBlk wr sx va ax ix
  by_ : SdBlk wr sy vb ay iy
  ox : SdOk wr n va a ax ix
  oy : SdOk wr n vb b ay iy
  fuel : wA a.length ax ix + wA b.length ay iy ≤ f
  size : n ≤ wr.heap.size
theorem sPSt.low {a b : List Sp} {va vb : Value} {n sx sy : Nat} {J : List Pt → World → Prop} {pre : List Pt} {f ax ay : Nat} {ix iy : Bool} {A C : World} (h : sPSt a b va vb n sx sy J pre f ax ay ix iy A) (hJ : ∀ s A C, J s A → StQ n A C → J s C) (k : Below A.heap.size A C) : sPSt a b va vb n sx sy J pre f ax ay ix iy C := by
  have hx : sx < A.heap.size := (Array.getElem?_eq_some_iff.1 h.bx).1
  have hy : sy < A.heap.size := (Array.getElem?_eq_some_iff.1 h.by_).1
  have hn := h.size
  exact ⟨h.rest, h.len, hJ _ _ _ h.j (.low k h.size), (k.block _ hx).trans h.bx, (k.block _ hy).trans h.by_, h.ox.kept (fun q hq => k.block q (by omega)), h.oy.kept (fun q hq => k.block q (by omega)), h.fuel, Nat.le_trans h.size k.size⟩
theorem sPSt.start {a b : List Sp} {va vb : Value} {n sx sy : Nat} {J : List Pt → World → Prop} {W W2 : World} (hJ : ∀ s A C, J s A → StQ n A C → J s C) (h0 : J [] W) (hb : Below W.heap.size W W2) (hn : n ≤ W.heap.size) (ra : RSps W n va a) (rb : RSps W n vb b)
    (hx : W2.heap[sx]? = some (.cells #[va, .int .i64 0, .bool false] 348 (0, 0))) (hy : W2.heap[sy]? = some (.cells #[vb, .int .i64 0, .bool false] 348 (0, 0))) : sPSt a b va vb n sx sy J [] (2 * a.length + 2 * b.length) 0 0 false false W2 :=
  ⟨rfl, by simp, hJ _ _ _ h0 (.low hb hn), hx, hy, ⟨ra.kept fun q hq => hb.block q (by omega), Nat.zero_le _, fun h => by cases h⟩, ⟨rb.kept fun q hq => hb.block q (by omega), Nat.zero_le _, fun h => by cases h⟩, by simp [wA], Nat.le_trans hn hb.size⟩
theorem sPSt.stop {a b : List Sp} {va vb : Value} {n sx sy : Nat} {J : List Pt → World → Prop} {pre : List Pt} {f ax ay : Nat} {ix iy : Bool} {A : World} (h : sPSt a b va vb n sx sy J pre f ax ay ix iy A) (ht : tmin (nxt (a.drop ax, ix)) (nxt (b.drop ay, iy)) = none) : pre = PTS a b := by
  have := h.rest
  rw [pts_none ht] at this
  rw [this, List.append_nil]
theorem sPSt.step {a b : List Sp} {va vb : Value} {n sx sy : Nat} {J : List Pt → World → Prop} {pre : List Pt} {f ax ay : Nat} {ix iy : Bool} {A C : World} {t : Int} (h : sPSt a b va vb n sx sy J pre f ax ay ix iy A) (ht : tmin (nxt (a.drop ax, ix)) (nxt (b.drop ay, iy)) = some t)
    (hj : J (pre ++ [(t, (passA a ax ix t).2, (passA b ay iy t).2)]) C) (hx : SdBlk C sx va (passA a ax ix t).1 (passA a ax ix t).2) (hy : SdBlk C sy vb (passA b ay iy t).1 (passA b ay iy t).2) (hk : ∀ q, q < n → C.heap[q]? = A.heap[q]?) (hs : A.heap.size ≤ C.heap.size) :
    ∃ f', sPSt a b va vb n sx sy J (pre ++ [(t, (passA a ax ix t).2, (passA b ay iy t).2)]) f' (passA a ax ix t).1 (passA b ay iy t).1 (passA a ax ix t).2 (passA b ay iy t).2 C ∧ sdM C sx a.length + sdM C sy b.length < sdM A sx a.length + sdM A sy b.length := by
  have hw : wA a.length (passA a ax ix t).1 (passA a ax ix t).2 + wA b.length (passA b ay iy t).1 (passA b ay iy t).2 < wA a.length ax ix + wA b.length ay iy := by
    have h1 := wA_le a ax ix t
    have h2 := wA_le b ay iy t
    rcases (tmin_some ht).2.2 with z | z
    · have := wA_pass z; omega
    · have := wA_pass z; omega
  have hf := h.fuel
  obtain ⟨f', rfl⟩ : ∃ f', f = f' + 1 := ⟨f - 1, by omega⟩
  refine ⟨f', ⟨?_, by have := h.len; simp; omega, hj, hx, hy, passA_ok (h.ox.kept hk) t, passA_ok (h.oy.kept hk) t, by omega, Nat.le_trans h.size hs⟩, ?_⟩
  · rw [h.rest, pts_some ht, passA_eq, passA_eq]
    have e1 := congrArg Prod.snd (passA_eq a ax ix t)
    have e2 := congrArg Prod.snd (passA_eq b ay iy t)
    simp only at e1 e2
    rw [e1, e2]
    simp
  · rw [sdM_blk hx, sdM_blk hy, sdM_blk h.bx, sdM_blk h.by_]; exact hw
set_option maxRecDepth 100000 in
set_option maxHeartbeats 16000000 in
theorem points1_in (n Ba Bb : Nat) (va vb : Value) (a b : List Sp) (w : World) (hn : n ≤ w.heap.size) (hba : w.heap[Ba]? = some (.cells #[va] 79 (0, 0))) (hbb : w.heap[Bb]? = some (.cells #[vb] 79 (0, 0)))
    (ra : RSps w n va a) (rb : RSps w n vb b) (la : a.length ≤ 1000) (lb : b.length ≤ 1000) :
    IterS Fence.wide 11 Tryz.prog 247 #[.pointer (some ⟨Ba, 0, none⟩), .pointer (some ⟨Bb, 0, none⟩)] encQ okQ (fun _ => true) (StQ n) (KpQ n) (fun ys => ys = PTS a b) False w := by
  intro l J Jx W hW hJ hJx hYt hYf h0
  have zw := hW.size
  have za : Ba < w.heap.size := (Array.getElem?_eq_some_iff.1 hba).1
  have zb : Bb < w.heap.size := (Array.getElem?_eq_some_iff.1 hbb).1
  have hwa : W.heap[Ba]? = some (.cells #[va] 79 (0, 0)) := (hW.block _ za).trans hba
  have hwb : W.heap[Bb]? = some (.cells #[vb] 79 (0, 0)) := (hW.block _ zb).trans hbb
  have ca := cellB hwa 0
  have cb := cellB hwb 0
  have HRA : Hid (RSps W n va a) := Lib.hid (ra.kept fun q hq => hW.block q (by omega))
  have HRB : Hid (RSps W n vb b) := Lib.hid (rb.kept fun q hq => hW.block q (by omega))
  have HY := Lib.hid hYt
  have HJ := Lib.hid hJ
  have HH0 := Lib.hid h0
  have zAW : Ba < W.heap.size := by omega
  have zBW : Bb < W.heap.size := by omega
  have zn : n ≤ W.heap.size := by omega
  obtain ⟨a1, c1, rfl⟩ : ∃ a1 c1, va = .slice a1 a.length c1 := by obtain ⟨a1, c1, h, _⟩ := ra; exact ⟨a1, c1, h⟩
  obtain ⟨a2, c2, rfl⟩ : ∃ a2 c2, vb = .slice a2 b.length c2 := by obtain ⟨a1, c1, h, _⟩ := rb; exact ⟨a1, c1, h⟩
  clear hwa hwb hba hbb ra rb hYt hYf hJ hJx hW za zb h0
  refine callsIn_of_wp Tryz.func247 rfl trivial ?_ rfl
  simp only [Tryz.ntmps247, List.size_toArray, List.length_cons, List.length_nil, Nat.reduceAdd, Nat.reduceSub, Array.replicate_succ, Array.replicate_zero, List.push_toArray, List.append_toArray, List.nil_append, List.cons_append]
  gi_wp2
  gi_region
  all_goals gi_wp2
  · obtain ⟨W2, hW2⟩ : ∃ q, ((W.alloc (.cells #[.slice a1 a.length c1, .int .i64 0, .bool false] 348 )).alloc (.cells #[.slice a2 b.length c2, .int .i64 0, .bool false] 348 )).drew = q := ⟨_, rfl⟩
    have hB2 : Below W.heap.size W W2 := by rw [← hW2]; exact belowA
    have h1 : W2.heap[W.heap.size]? = some (.cells #[.slice a1 a.length c1, .int .i64 0, .bool false] 348 (0, 0)) := by rw [← hW2]; exact (Below.heap_alloc _ _ _ (by simp)).trans heap_new
    have h2 : W2.heap[W.heap.size + 1]? = some (.cells #[.slice a2 b.length c2, .int .i64 0, .bool false] 348 (0, 0)) := by rw [← hW2]; exact heap_new' (W := W.alloc _) (by simp)
    rw [hW2]
    obtain ⟨s2, hs2⟩ : ∃ q, W.heap.size + 1 = q := ⟨_, rfl⟩
    have hn1 : n ≤ W.heap.size := zn
    have hne : W.heap.size ≠ s2 := by omega
    have hn2 : n ≤ s2 := by omega
    rw [hs2] at h2 ⊢
    obtain ⟨s1, hs1⟩ : ∃ q, W.heap.size = q := ⟨_, rfl⟩
    rw [hs1] at h1 hn1 hne ⊢
    have HP0 := Lib.hid (sPSt.start (sx := s1) (sy := s2) HJ.out HH0.out hB2 zn HRA.out HRB.out h1 h2)
    have nx : n ≤ s1 := hn1
    have ny : n ≤ s2 := hn2
    have nxy : s1 ≠ s2 := hne
    clear hW2 hB2 h1 h2 hs1 hs2 ca cb hn1 hn2 hne HH0 HRA HRB zAW zBW zn
    gi_loopw [] (fun wr => ∃ (pre : List Pt) (f ax ay : Nat) (ix iy : Bool), Hid (sPSt a b (.slice a1 a.length c1) (.slice a2 b.length c2) n s1 s2 J pre f ax ay ix iy wr)) (fun wr => sdM wr s1 a.length + sdM wr s2 b.length)
    case atStart => exact ⟨_, _, _, _, _, _, HP0⟩
    case round =>
      obtain ⟨pre, f, ax, ay, ix, iy, HP⟩ := hrel
      obtain ⟨V1, hV1⟩ : ∃ q, nxtV (a.drop ax, ix) = q := ⟨_, rfl⟩
      obtain ⟨V2, hV2⟩ : ∃ q, nxtV (b.drop ay, iy) = q := ⟨_, rfl⟩
      obtain ⟨E1, hE1⟩ : ∃ q, nxtB (a.drop ax, ix) = q := ⟨_, rfl⟩
      obtain ⟨E2, hE2⟩ : ∃ q, nxtB (b.drop ay, iy) = q := ⟨_, rfl⟩
      have HN1 := Lib.hid (nxt_val hV1 hE1)
      have HN2 := Lib.hid (nxt_val hV2 hE2)
      have HV1 := Lib.hid hV1
      have HV2 := Lib.hid hV2
      have HE1 := Lib.hid hE1
      have HE2 := Lib.hid hE2
      clear hV1 hV2 hE1 hE2
      gi_wp2_with fail
      refine ⟨trivial, callsIn_wide.2 ((next_any a _ ax s1 ix _ HP.out.bx (HP.out.ox.wide HP.out.size)).mono ?_)⟩
      rw [HV1.out, HE1.out]
      rintro e' w1 ⟨rfl, hb1⟩
      have HP1 := Lib.hid (HP.out.low HJ.out hb1)
      clear hb1
      gi_wp2_with fail
      refine ⟨trivial, callsIn_wide.2 ((next_any b _ ay s2 iy _ HP1.out.by_ (HP1.out.oy.wide HP1.out.size)).mono ?_)⟩
      rw [HV2.out, HE2.out]
      rintro e' w2 ⟨rfl, hb2⟩
      have HP2 := Lib.hid (HP1.out.low HJ.out hb2)
      have HM : Hid (sdM w2 s1 a.length + sdM w2 s2 b.length = sdM wr s1 a.length + sdM wr s2 b.length) := Lib.hid (by rw [sdM_blk HP2.out.bx, sdM_blk HP2.out.by_, sdM_blk HP.out.bx, sdM_blk HP.out.by_])
      clear hb2 HP HP1 HP0
      cases E1 with
      | false =>
        cases E2 with
        | false =>
          have HT : Hid (tmin (nxt (a.drop ax, ix)) (nxt (b.drop ay, iy)) = none) := Lib.hid (by rw [HN1.out, HN2.out]; rfl)
          gi_wp2
          refine bodyPost_ret (results_none rfl _ _ _) rfl ?_
          exact ⟨⟨_, rfl⟩, .inl ⟨pre, HP2.out.stop HT.out, HP2.out.j⟩⟩
        | true =>
          have HT : Hid (tmin (nxt (a.drop ax, ix)) (nxt (b.drop ay, iy)) = some V2) := Lib.hid (by rw [HN1.out, HN2.out]; rfl)
          as_aux_lemma =>
            gi_wp2_with fail
            refine ⟨trivial, callsIn_wide.2 ((spass_any a _ ax s1 ix V2 _ HP2.out.bx (HP2.out.ox.wide HP2.out.size) la).mono ?_)⟩
            rintro e' w3 ⟨⟨u3, rfl⟩, st3, bx3, ot3⟩
            have zy2 : s2 < w2.heap.size := (Array.getElem?_eq_some_iff.1 HP2.out.by_).1
            have by3 : SdBlk w3 s2 (.slice a2 b.length c2) ay iy := (ot3 _ zy2 (Ne.symm nxy)).trans HP2.out.by_
            have hn2 := HP2.out.size
            have low3 : ∀ q, q < n → w3.heap[q]? = w2.heap[q]? := fun q hq => ot3 q (by omega) (by omega)
            have z3 := st3.size
            have HJ3 := Lib.hid (HJ.out _ _ _ HP2.out.j ⟨st3, low3⟩)
            have HBX3 := Lib.hid bx3
            have HBY3 := Lib.hid by3
            have HLOW3 := Lib.hid low3
            have HOY3 := Lib.hid ((HP2.out.oy.kept low3).wide (show n ≤ w3.heap.size by omega))
            clear st3 bx3 ot3 by3 low3
            gi_wp2_with fail
            refine ⟨trivial, callsIn_wide.2 ((spass_any b _ ay s2 iy V2 _ HBY3.out HOY3.out lb).mono ?_)⟩
            rintro e' w4 ⟨⟨u4, rfl⟩, st4, by4, ot4⟩
            have zx3 : s1 < w3.heap.size := (Array.getElem?_eq_some_iff.1 HBX3.out).1
            have bx4 : SdBlk w4 s1 (.slice a1 a.length c1) (passA a ax ix V2).1 (passA a ax ix V2).2 := (ot4 _ zx3 nxy).trans HBX3.out
            have low4 : ∀ q, q < n → w4.heap[q]? = w3.heap[q]? := fun q hq => ot4 q (by omega) (by omega)
            have z4 := st4.size
            have HJ4 := Lib.hid (HJ.out _ _ _ HJ3.out ⟨st4, low4⟩)
            have HBX4 := Lib.hid bx4
            have HBY4 := Lib.hid by4
            have HLOW4 : Hid (∀ q, q < n → w4.heap[q]? = w2.heap[q]?) := Lib.hid (fun q hq => (low4 q hq).trans (HLOW3.out q hq))
            clear st4 by4 ot4 bx4 low4
            obtain ⟨⟨ax', ix'⟩, hA⟩ : ∃ q, passA a ax ix V2 = q := ⟨_, rfl⟩
            obtain ⟨⟨ay', iy'⟩, hB⟩ : ∃ q, passA b ay iy V2 = q := ⟨_, rfl⟩
            have HA := Lib.hid hA
            have HB := Lib.hid hB
            rw [hA] at HBX4
            rw [hB] at HBY4
            simp only at HBX4 HBY4
            have hcx : w4.heap[s1]? = some (.cells #[.slice a1 a.length c1, .int .i64 (ax' : Int), .bool ix'] 348 (0, 0)) := HBX4.out
            have hcy : w4.heap[s2]? = some (.cells #[.slice a2 b.length c2, .int .i64 (ay' : Int), .bool iy'] 348 (0, 0)) := HBY4.out
            have cx := cellB hcx 2
            have cy := cellB hcy 2
            have hz4 : n ≤ w4.heap.size := by omega
            have hpl : pre.length ≤ 10000 := by have := HP2.out.len; omega
            clear hA hB hcx hcy
            gi_wp2
            refine wpIn_region_plan (fun V => V.cell? ⟨s1, 2, none⟩ = some (.bool ix') ∧ V.cell? ⟨s2, 2, none⟩ = some (.bool iy')) [0, 0, 0, 0, 0, 1, 0, 0, 0, 1, 0, 3, 0] [0, 1, 2, 3, 4, 5, 6, 7, 8, 9, 10, 11, 12] (by kernel_rfl) (by kernel_rfl) ?_ ?_
            · exact ⟨cx, cy⟩
            (iterate 11 (refine plan_heldI rfl (by decide) (by rfl) (fun w1 => by rfl) (fun w1 hS => by (try (have hS := hS rfl; obtain hS := hS; repeat (obtain ⟨_, hS⟩ := hS))); go_simp; rfl) ?_; simp only [Act.put, List.setIfInBounds_toArray, List.set_cons_zero, List.set_cons_succ]))
            clear cx cy
            (refine plan_lateI rfl rfl (by rfl) (fun K hK => ?_))
            obtain ⟨fn, tmps, assign, body, hy, hR⟩ := HY.out pre (V2, ix', iy') _ _ HJ4.out (show Below w4.heap.size w4 w4.drew from belowA) (HJ.out _ _ _ HJ4.out (.low belowA hz4)) hpl trivial
            dsimp only [encQ] at hy
            go_simp
            refine hR.mono ?_
            clear hy hR
            rintro e W3 ⟨rfl, hj5, hk5⟩
            dsimp only
            refine hK _ _ ?_
            clear hK K
            have hj6 : J (pre ++ [(V2, (passA a ax ix V2).2, (passA b ay iy V2).2)]) W3 := by rw [HA.out, HB.out]; exact hj5
            have bx6 : SdBlk W3 s1 (.slice a1 a.length c1) (passA a ax ix V2).1 (passA a ax ix V2).2 := by rw [HA.out]; exact (hk5.2.2 _ _ _ HBX4.out).trans HBX4.out
            have by6 : SdBlk W3 s2 (.slice a2 b.length c2) (passA b ay iy V2).1 (passA b ay iy V2).2 := by rw [HB.out]; exact (hk5.2.2 _ _ _ HBY4.out).trans HBY4.out
            have zz : w2.heap.size ≤ W3.heap.size := Nat.le_trans (show w2.heap.size ≤ w4.heap.size by omega) hk5.1
            obtain ⟨f', hP6, hM6⟩ := HP2.out.step HT.out hj6 bx6 by6 (fun q hq => (hk5.2.1 q hq).trans (HLOW4.out q hq)) zz
            have HP6 := Lib.hid hP6
            have HM6 := Lib.hid hM6
            clear hj5 hk5 hj6 bx6 by6 hP6 hM6
            (iterate 1 (refine plan_heldI rfl (by decide) (by rfl) (fun w1 => by rfl) (fun w1 hS => by (try (have hS := hS rfl; obtain hS := hS; repeat (obtain ⟨_, hS⟩ := hS))); go_simp; rfl) ?_; simp only [Act.put, List.setIfInBounds_toArray, List.set_cons_zero, List.set_cons_succ]))
            refine plan_doneI ?_
            gi_wp2
            exact ⟨⟨_, _, _, _, _, _, HP6⟩, by rw [← HM.out]; exact HM6.out⟩
      | true =>
        cases E2 with
        | false =>
          have HT : Hid (tmin (nxt (a.drop ax, ix)) (nxt (b.drop ay, iy)) = some V1) := Lib.hid (by rw [HN1.out, HN2.out]; rfl)
          as_aux_lemma =>
            gi_wp2_with fail
            refine ⟨trivial, callsIn_wide.2 ((spass_any a _ ax s1 ix V1 _ HP2.out.bx (HP2.out.ox.wide HP2.out.size) la).mono ?_)⟩
            rintro e' w3 ⟨⟨u3, rfl⟩, st3, bx3, ot3⟩
            have zy2 : s2 < w2.heap.size := (Array.getElem?_eq_some_iff.1 HP2.out.by_).1
            have by3 : SdBlk w3 s2 (.slice a2 b.length c2) ay iy := (ot3 _ zy2 (Ne.symm nxy)).trans HP2.out.by_
            have hn2 := HP2.out.size
            have low3 : ∀ q, q < n → w3.heap[q]? = w2.heap[q]? := fun q hq => ot3 q (by omega) (by omega)
            have z3 := st3.size
            have HJ3 := Lib.hid (HJ.out _ _ _ HP2.out.j ⟨st3, low3⟩)
            have HBX3 := Lib.hid bx3
            have HBY3 := Lib.hid by3
            have HLOW3 := Lib.hid low3
            have HOY3 := Lib.hid ((HP2.out.oy.kept low3).wide (show n ≤ w3.heap.size by omega))
            clear st3 bx3 ot3 by3 low3
            gi_wp2_with fail
            refine ⟨trivial, callsIn_wide.2 ((spass_any b _ ay s2 iy V1 _ HBY3.out HOY3.out lb).mono ?_)⟩
            rintro e' w4 ⟨⟨u4, rfl⟩, st4, by4, ot4⟩
            have zx3 : s1 < w3.heap.size := (Array.getElem?_eq_some_iff.1 HBX3.out).1
            have bx4 : SdBlk w4 s1 (.slice a1 a.length c1) (passA a ax ix V1).1 (passA a ax ix V1).2 := (ot4 _ zx3 nxy).trans HBX3.out
            have low4 : ∀ q, q < n → w4.heap[q]? = w3.heap[q]? := fun q hq => ot4 q (by omega) (by omega)
            have z4 := st4.size
            have HJ4 := Lib.hid (HJ.out _ _ _ HJ3.out ⟨st4, low4⟩)
            have HBX4 := Lib.hid bx4
            have HBY4 := Lib.hid by4
            have HLOW4 : Hid (∀ q, q < n → w4.heap[q]? = w2.heap[q]?) := Lib.hid (fun q hq => (low4 q hq).trans (HLOW3.out q hq))
            clear st4 by4 ot4 bx4 low4
            obtain ⟨⟨ax', ix'⟩, hA⟩ : ∃ q, passA a ax ix V1 = q := ⟨_, rfl⟩
            obtain ⟨⟨ay', iy'⟩, hB⟩ : ∃ q, passA b ay iy V1 = q := ⟨_, rfl⟩
            have HA := Lib.hid hA
            have HB := Lib.hid hB
            rw [hA] at HBX4
            rw [hB] at HBY4
            simp only at HBX4 HBY4
            have hcx : w4.heap[s1]? = some (.cells #[.slice a1 a.length c1, .int .i64 (ax' : Int), .bool ix'] 348 (0, 0)) := HBX4.out
            have hcy : w4.heap[s2]? = some (.cells #[.slice a2 b.length c2, .int .i64 (ay' : Int), .bool iy'] 348 (0, 0)) := HBY4.out
            have cx := cellB hcx 2
            have cy := cellB hcy 2
            have hz4 : n ≤ w4.heap.size := by omega
            have hpl : pre.length ≤ 10000 := by have := HP2.out.len; omega
            clear hA hB hcx hcy
            gi_wp2
            refine wpIn_region_plan (fun V => V.cell? ⟨s1, 2, none⟩ = some (.bool ix') ∧ V.cell? ⟨s2, 2, none⟩ = some (.bool iy')) [0, 0, 0, 0, 0, 1, 0, 0, 0, 1, 0, 3, 0] [0, 1, 2, 3, 4, 5, 6, 7, 8, 9, 10, 11, 12] (by kernel_rfl) (by kernel_rfl) ?_ ?_
            · exact ⟨cx, cy⟩
            (iterate 11 (refine plan_heldI rfl (by decide) (by rfl) (fun w1 => by rfl) (fun w1 hS => by (try (have hS := hS rfl; obtain hS := hS; repeat (obtain ⟨_, hS⟩ := hS))); go_simp; rfl) ?_; simp only [Act.put, List.setIfInBounds_toArray, List.set_cons_zero, List.set_cons_succ]))
            clear cx cy
            (refine plan_lateI rfl rfl (by rfl) (fun K hK => ?_))
            obtain ⟨fn, tmps, assign, body, hy, hR⟩ := HY.out pre (V1, ix', iy') _ _ HJ4.out (show Below w4.heap.size w4 w4.drew from belowA) (HJ.out _ _ _ HJ4.out (.low belowA hz4)) hpl trivial
            dsimp only [encQ] at hy
            go_simp
            refine hR.mono ?_
            clear hy hR
            rintro e W3 ⟨rfl, hj5, hk5⟩
            dsimp only
            refine hK _ _ ?_
            clear hK K
            have hj6 : J (pre ++ [(V1, (passA a ax ix V1).2, (passA b ay iy V1).2)]) W3 := by rw [HA.out, HB.out]; exact hj5
            have bx6 : SdBlk W3 s1 (.slice a1 a.length c1) (passA a ax ix V1).1 (passA a ax ix V1).2 := by rw [HA.out]; exact (hk5.2.2 _ _ _ HBX4.out).trans HBX4.out
            have by6 : SdBlk W3 s2 (.slice a2 b.length c2) (passA b ay iy V1).1 (passA b ay iy V1).2 := by rw [HB.out]; exact (hk5.2.2 _ _ _ HBY4.out).trans HBY4.out
            have zz : w2.heap.size ≤ W3.heap.size := Nat.le_trans (show w2.heap.size ≤ w4.heap.size by omega) hk5.1
            obtain ⟨f', hP6, hM6⟩ := HP2.out.step HT.out hj6 bx6 by6 (fun q hq => (hk5.2.1 q hq).trans (HLOW4.out q hq)) zz
            have HP6 := Lib.hid hP6
            have HM6 := Lib.hid hM6
            clear hj5 hk5 hj6 bx6 by6 hP6 hM6
            (iterate 1 (refine plan_heldI rfl (by decide) (by rfl) (fun w1 => by rfl) (fun w1 hS => by (try (have hS := hS rfl; obtain hS := hS; repeat (obtain ⟨_, hS⟩ := hS))); go_simp; rfl) ?_; simp only [Act.put, List.setIfInBounds_toArray, List.set_cons_zero, List.set_cons_succ]))
            refine plan_doneI ?_
            gi_wp2
            exact ⟨⟨_, _, _, _, _, _, HP6⟩, by rw [← HM.out]; exact HM6.out⟩
        | true =>
          by_cases z : V2 < V1
          · have HT : Hid (tmin (nxt (a.drop ax, ix)) (nxt (b.drop ay, iy)) = some V2) := Lib.hid (by rw [HN1.out, HN2.out]; simp [tmin, z])
            have dz : decide (V2 < V1) = true := decide_eq_true z
            clear z
            as_aux_lemma =>
              gi_wp2_with fail
              refine ⟨trivial, callsIn_wide.2 ((spass_any a _ ax s1 ix V2 _ HP2.out.bx (HP2.out.ox.wide HP2.out.size) la).mono ?_)⟩
              rintro e' w3 ⟨⟨u3, rfl⟩, st3, bx3, ot3⟩
              have zy2 : s2 < w2.heap.size := (Array.getElem?_eq_some_iff.1 HP2.out.by_).1
              have by3 : SdBlk w3 s2 (.slice a2 b.length c2) ay iy := (ot3 _ zy2 (Ne.symm nxy)).trans HP2.out.by_
              have hn2 := HP2.out.size
              have low3 : ∀ q, q < n → w3.heap[q]? = w2.heap[q]? := fun q hq => ot3 q (by omega) (by omega)
              have z3 := st3.size
              have HJ3 := Lib.hid (HJ.out _ _ _ HP2.out.j ⟨st3, low3⟩)
              have HBX3 := Lib.hid bx3
              have HBY3 := Lib.hid by3
              have HLOW3 := Lib.hid low3
              have HOY3 := Lib.hid ((HP2.out.oy.kept low3).wide (show n ≤ w3.heap.size by omega))
              clear st3 bx3 ot3 by3 low3
              gi_wp2_with fail
              refine ⟨trivial, callsIn_wide.2 ((spass_any b _ ay s2 iy V2 _ HBY3.out HOY3.out lb).mono ?_)⟩
              rintro e' w4 ⟨⟨u4, rfl⟩, st4, by4, ot4⟩
              have zx3 : s1 < w3.heap.size := (Array.getElem?_eq_some_iff.1 HBX3.out).1
              have bx4 : SdBlk w4 s1 (.slice a1 a.length c1) (passA a ax ix V2).1 (passA a ax ix V2).2 := (ot4 _ zx3 nxy).trans HBX3.out
              have low4 : ∀ q, q < n → w4.heap[q]? = w3.heap[q]? := fun q hq => ot4 q (by omega) (by omega)
              have z4 := st4.size
              have HJ4 := Lib.hid (HJ.out _ _ _ HJ3.out ⟨st4, low4⟩)
              have HBX4 := Lib.hid bx4
              have HBY4 := Lib.hid by4
              have HLOW4 : Hid (∀ q, q < n → w4.heap[q]? = w2.heap[q]?) := Lib.hid (fun q hq => (low4 q hq).trans (HLOW3.out q hq))
              clear st4 by4 ot4 bx4 low4
              obtain ⟨⟨ax', ix'⟩, hA⟩ : ∃ q, passA a ax ix V2 = q := ⟨_, rfl⟩
              obtain ⟨⟨ay', iy'⟩, hB⟩ : ∃ q, passA b ay iy V2 = q := ⟨_, rfl⟩
              have HA := Lib.hid hA
              have HB := Lib.hid hB
              rw [hA] at HBX4
              rw [hB] at HBY4
              simp only at HBX4 HBY4
              have hcx : w4.heap[s1]? = some (.cells #[.slice a1 a.length c1, .int .i64 (ax' : Int), .bool ix'] 348 (0, 0)) := HBX4.out
              have hcy : w4.heap[s2]? = some (.cells #[.slice a2 b.length c2, .int .i64 (ay' : Int), .bool iy'] 348 (0, 0)) := HBY4.out
              have cx := cellB hcx 2
              have cy := cellB hcy 2
              have hz4 : n ≤ w4.heap.size := by omega
              have hpl : pre.length ≤ 10000 := by have := HP2.out.len; omega
              clear hA hB hcx hcy
              gi_wp2
              refine wpIn_region_plan (fun V => V.cell? ⟨s1, 2, none⟩ = some (.bool ix') ∧ V.cell? ⟨s2, 2, none⟩ = some (.bool iy')) [0, 0, 0, 0, 0, 1, 0, 0, 0, 1, 0, 3, 0] [0, 1, 2, 3, 4, 5, 6, 7, 8, 9, 10, 11, 12] (by kernel_rfl) (by kernel_rfl) ?_ ?_
              · exact ⟨cx, cy⟩
              (iterate 11 (refine plan_heldI rfl (by decide) (by rfl) (fun w1 => by rfl) (fun w1 hS => by (try (have hS := hS rfl; obtain hS := hS; repeat (obtain ⟨_, hS⟩ := hS))); go_simp; rfl) ?_; simp only [Act.put, List.setIfInBounds_toArray, List.set_cons_zero, List.set_cons_succ]))
              clear cx cy
              (refine plan_lateI rfl rfl (by rfl) (fun K hK => ?_))
              obtain ⟨fn, tmps, assign, body, hy, hR⟩ := HY.out pre (V2, ix', iy') _ _ HJ4.out (show Below w4.heap.size w4 w4.drew from belowA) (HJ.out _ _ _ HJ4.out (.low belowA hz4)) hpl trivial
              dsimp only [encQ] at hy
              go_simp
              refine hR.mono ?_
              clear hy hR
              rintro e W3 ⟨rfl, hj5, hk5⟩
              dsimp only
              refine hK _ _ ?_
              clear hK K
              have hj6 : J (pre ++ [(V2, (passA a ax ix V2).2, (passA b ay iy V2).2)]) W3 := by rw [HA.out, HB.out]; exact hj5
              have bx6 : SdBlk W3 s1 (.slice a1 a.length c1) (passA a ax ix V2).1 (passA a ax ix V2).2 := by rw [HA.out]; exact (hk5.2.2 _ _ _ HBX4.out).trans HBX4.out
              have by6 : SdBlk W3 s2 (.slice a2 b.length c2) (passA b ay iy V2).1 (passA b ay iy V2).2 := by rw [HB.out]; exact (hk5.2.2 _ _ _ HBY4.out).trans HBY4.out
              have zz : w2.heap.size ≤ W3.heap.size := Nat.le_trans (show w2.heap.size ≤ w4.heap.size by omega) hk5.1
              obtain ⟨f', hP6, hM6⟩ := HP2.out.step HT.out hj6 bx6 by6 (fun q hq => (hk5.2.1 q hq).trans (HLOW4.out q hq)) zz
              have HP6 := Lib.hid hP6
              have HM6 := Lib.hid hM6
              clear hj5 hk5 hj6 bx6 by6 hP6 hM6
              (iterate 1 (refine plan_heldI rfl (by decide) (by rfl) (fun w1 => by rfl) (fun w1 hS => by (try (have hS := hS rfl; obtain hS := hS; repeat (obtain ⟨_, hS⟩ := hS))); go_simp; rfl) ?_; simp only [Act.put, List.setIfInBounds_toArray, List.set_cons_zero, List.set_cons_succ]))
              refine plan_doneI ?_
              gi_wp2
              exact ⟨⟨_, _, _, _, _, _, HP6⟩, by rw [← HM.out]; exact HM6.out⟩
          · have HT : Hid (tmin (nxt (a.drop ax, ix)) (nxt (b.drop ay, iy)) = some V1) := Lib.hid (by rw [HN1.out, HN2.out]; simp [tmin, z])
            have dz : decide (V2 < V1) = false := decide_eq_false z
            clear z
            as_aux_lemma =>
              gi_wp2_with fail
              refine ⟨trivial, callsIn_wide.2 ((spass_any a _ ax s1 ix V1 _ HP2.out.bx (HP2.out.ox.wide HP2.out.size) la).mono ?_)⟩
              rintro e' w3 ⟨⟨u3, rfl⟩, st3, bx3, ot3⟩
              have zy2 : s2 < w2.heap.size := (Array.getElem?_eq_some_iff.1 HP2.out.by_).1
              have by3 : SdBlk w3 s2 (.slice a2 b.length c2) ay iy := (ot3 _ zy2 (Ne.symm nxy)).trans HP2.out.by_
              have hn2 := HP2.out.size
              have low3 : ∀ q, q < n → w3.heap[q]? = w2.heap[q]? := fun q hq => ot3 q (by omega) (by omega)
              have z3 := st3.size
              have HJ3 := Lib.hid (HJ.out _ _ _ HP2.out.j ⟨st3, low3⟩)
              have HBX3 := Lib.hid bx3
              have HBY3 := Lib.hid by3
              have HLOW3 := Lib.hid low3
              have HOY3 := Lib.hid ((HP2.out.oy.kept low3).wide (show n ≤ w3.heap.size by omega))
              clear st3 bx3 ot3 by3 low3
              gi_wp2_with fail
              refine ⟨trivial, callsIn_wide.2 ((spass_any b _ ay s2 iy V1 _ HBY3.out HOY3.out lb).mono ?_)⟩
              rintro e' w4 ⟨⟨u4, rfl⟩, st4, by4, ot4⟩
              have zx3 : s1 < w3.heap.size := (Array.getElem?_eq_some_iff.1 HBX3.out).1
              have bx4 : SdBlk w4 s1 (.slice a1 a.length c1) (passA a ax ix V1).1 (passA a ax ix V1).2 := (ot4 _ zx3 nxy).trans HBX3.out
              have low4 : ∀ q, q < n → w4.heap[q]? = w3.heap[q]? := fun q hq => ot4 q (by omega) (by omega)
              have z4 := st4.size
              have HJ4 := Lib.hid (HJ.out _ _ _ HJ3.out ⟨st4, low4⟩)
              have HBX4 := Lib.hid bx4
              have HBY4 := Lib.hid by4
              have HLOW4 : Hid (∀ q, q < n → w4.heap[q]? = w2.heap[q]?) := Lib.hid (fun q hq => (low4 q hq).trans (HLOW3.out q hq))
              clear st4 by4 ot4 bx4 low4
              obtain ⟨⟨ax', ix'⟩, hA⟩ : ∃ q, passA a ax ix V1 = q := ⟨_, rfl⟩
              obtain ⟨⟨ay', iy'⟩, hB⟩ : ∃ q, passA b ay iy V1 = q := ⟨_, rfl⟩
              have HA := Lib.hid hA
              have HB := Lib.hid hB
              rw [hA] at HBX4
              rw [hB] at HBY4
              simp only at HBX4 HBY4
              have hcx : w4.heap[s1]? = some (.cells #[.slice a1 a.length c1, .int .i64 (ax' : Int), .bool ix'] 348 (0, 0)) := HBX4.out
              have hcy : w4.heap[s2]? = some (.cells #[.slice a2 b.length c2, .int .i64 (ay' : Int), .bool iy'] 348 (0, 0)) := HBY4.out
              have cx := cellB hcx 2
              have cy := cellB hcy 2
              have hz4 : n ≤ w4.heap.size := by omega
              have hpl : pre.length ≤ 10000 := by have := HP2.out.len; omega
              clear hA hB hcx hcy
              gi_wp2
              refine wpIn_region_plan (fun V => V.cell? ⟨s1, 2, none⟩ = some (.bool ix') ∧ V.cell? ⟨s2, 2, none⟩ = some (.bool iy')) [0, 0, 0, 0, 0, 1, 0, 0, 0, 1, 0, 3, 0] [0, 1, 2, 3, 4, 5, 6, 7, 8, 9, 10, 11, 12] (by kernel_rfl) (by kernel_rfl) ?_ ?_
              · exact ⟨cx, cy⟩
              (iterate 11 (refine plan_heldI rfl (by decide) (by rfl) (fun w1 => by rfl) (fun w1 hS => by (try (have hS := hS rfl; obtain hS := hS; repeat (obtain ⟨_, hS⟩ := hS))); go_simp; rfl) ?_; simp only [Act.put, List.setIfInBounds_toArray, List.set_cons_zero, List.set_cons_succ]))
              clear cx cy
              (refine plan_lateI rfl rfl (by rfl) (fun K hK => ?_))
              obtain ⟨fn, tmps, assign, body, hy, hR⟩ := HY.out pre (V1, ix', iy') _ _ HJ4.out (show Below w4.heap.size w4 w4.drew from belowA) (HJ.out _ _ _ HJ4.out (.low belowA hz4)) hpl trivial
              dsimp only [encQ] at hy
              go_simp
              refine hR.mono ?_
              clear hy hR
              rintro e W3 ⟨rfl, hj5, hk5⟩
              dsimp only
              refine hK _ _ ?_
              clear hK K
              have hj6 : J (pre ++ [(V1, (passA a ax ix V1).2, (passA b ay iy V1).2)]) W3 := by rw [HA.out, HB.out]; exact hj5
              have bx6 : SdBlk W3 s1 (.slice a1 a.length c1) (passA a ax ix V1).1 (passA a ax ix V1).2 := by rw [HA.out]; exact (hk5.2.2 _ _ _ HBX4.out).trans HBX4.out
              have by6 : SdBlk W3 s2 (.slice a2 b.length c2) (passA b ay iy V1).1 (passA b ay iy V1).2 := by rw [HB.out]; exact (hk5.2.2 _ _ _ HBY4.out).trans HBY4.out
              have zz : w2.heap.size ≤ W3.heap.size := Nat.le_trans (show w2.heap.size ≤ w4.heap.size by omega) hk5.1
              obtain ⟨f', hP6, hM6⟩ := HP2.out.step HT.out hj6 bx6 by6 (fun q hq => (hk5.2.1 q hq).trans (HLOW4.out q hq)) zz
              have HP6 := Lib.hid hP6
              have HM6 := Lib.hid hM6
              clear hj5 hk5 hj6 bx6 by6 hP6 hM6
              (iterate 1 (refine plan_heldI rfl (by decide) (by rfl) (fun w1 => by rfl) (fun w1 hS => by (try (have hS := hS rfl; obtain hS := hS; repeat (obtain ⟨_, hS⟩ := hS))); go_simp; rfl) ?_; simp only [Act.put, List.setIfInBounds_toArray, List.set_cons_zero, List.set_cons_succ]))
              refine plan_doneI ?_
              gi_wp2
              exact ⟨⟨_, _, _, _, _, _, HP6⟩, by rw [← HM.out]; exact HM6.out⟩
  · obtain ⟨W2, hW2⟩ : ∃ q, ((W.alloc (.cells #[.slice a2 b.length c2, .int .i64 0, .bool false] 348 )).alloc (.cells #[.slice a1 a.length c1, .int .i64 0, .bool false] 348 )).drew = q := ⟨_, rfl⟩
    have hB2 : Below W.heap.size W W2 := by rw [← hW2]; exact belowA
    have h1 : W2.heap[W.heap.size]? = some (.cells #[.slice a2 b.length c2, .int .i64 0, .bool false] 348 (0, 0)) := by rw [← hW2]; exact (Below.heap_alloc _ _ _ (by simp)).trans heap_new
    have h2 : W2.heap[W.heap.size + 1]? = some (.cells #[.slice a1 a.length c1, .int .i64 0, .bool false] 348 (0, 0)) := by rw [← hW2]; exact heap_new' (W := W.alloc _) (by simp)
    rw [hW2]
    obtain ⟨s2, hs2⟩ : ∃ q, W.heap.size + 1 = q := ⟨_, rfl⟩
    have hn1 : n ≤ W.heap.size := zn
    have hne : W.heap.size ≠ s2 := by omega
    have hn2 : n ≤ s2 := by omega
    rw [hs2] at h2 ⊢
    obtain ⟨s1, hs1⟩ : ∃ q, W.heap.size = q := ⟨_, rfl⟩
    rw [hs1] at h1 hn1 hne ⊢
    have HP0 := Lib.hid (sPSt.start (sx := s2) (sy := s1) HJ.out HH0.out hB2 zn HRA.out HRB.out h2 h1)
    have nx : n ≤ s2 := hn2
    have ny : n ≤ s1 := hn1
    have nxy : s2 ≠ s1 := hne.symm
    clear hW2 hB2 h1 h2 hs1 hs2 ca cb hn1 hn2 hne HH0 HRA HRB zAW zBW zn
    gi_loopw [] (fun wr => ∃ (pre : List Pt) (f ax ay : Nat) (ix iy : Bool), Hid (sPSt a b (.slice a1 a.length c1) (.slice a2 b.length c2) n s2 s1 J pre f ax ay ix iy wr)) (fun wr => sdM wr s2 a.length + sdM wr s1 b.length)
    case atStart => exact ⟨_, _, _, _, _, _, HP0⟩
    case round =>
      obtain ⟨pre, f, ax, ay, ix, iy, HP⟩ := hrel
      obtain ⟨V1, hV1⟩ : ∃ q, nxtV (a.drop ax, ix) = q := ⟨_, rfl⟩
      obtain ⟨V2, hV2⟩ : ∃ q, nxtV (b.drop ay, iy) = q := ⟨_, rfl⟩
      obtain ⟨E1, hE1⟩ : ∃ q, nxtB (a.drop ax, ix) = q := ⟨_, rfl⟩
      obtain ⟨E2, hE2⟩ : ∃ q, nxtB (b.drop ay, iy) = q := ⟨_, rfl⟩
      have HN1 := Lib.hid (nxt_val hV1 hE1)
      have HN2 := Lib.hid (nxt_val hV2 hE2)
      have HV1 := Lib.hid hV1
      have HV2 := Lib.hid hV2
      have HE1 := Lib.hid hE1
      have HE2 := Lib.hid hE2
      clear hV1 hV2 hE1 hE2
      gi_wp2_with fail
      refine ⟨trivial, callsIn_wide.2 ((next_any a _ ax s2 ix _ HP.out.bx (HP.out.ox.wide HP.out.size)).mono ?_)⟩
      rw [HV1.out, HE1.out]
      rintro e' w1 ⟨rfl, hb1⟩
      have HP1 := Lib.hid (HP.out.low HJ.out hb1)
      clear hb1
      gi_wp2_with fail
      refine ⟨trivial, callsIn_wide.2 ((next_any b _ ay s1 iy _ HP1.out.by_ (HP1.out.oy.wide HP1.out.size)).mono ?_)⟩
      rw [HV2.out, HE2.out]
      rintro e' w2 ⟨rfl, hb2⟩
      have HP2 := Lib.hid (HP1.out.low HJ.out hb2)
      have HM : Hid (sdM w2 s2 a.length + sdM w2 s1 b.length = sdM wr s2 a.length + sdM wr s1 b.length) := Lib.hid (by rw [sdM_blk HP2.out.bx, sdM_blk HP2.out.by_, sdM_blk HP.out.bx, sdM_blk HP.out.by_])
      clear hb2 HP HP1 HP0
      cases E1 with
      | false =>
        cases E2 with
        | false =>
          have HT : Hid (tmin (nxt (a.drop ax, ix)) (nxt (b.drop ay, iy)) = none) := Lib.hid (by rw [HN1.out, HN2.out]; rfl)
          gi_wp2
          refine bodyPost_ret (results_none rfl _ _ _) rfl ?_
          exact ⟨⟨_, rfl⟩, .inl ⟨pre, HP2.out.stop HT.out, HP2.out.j⟩⟩
        | true =>
          have HT : Hid (tmin (nxt (a.drop ax, ix)) (nxt (b.drop ay, iy)) = some V2) := Lib.hid (by rw [HN1.out, HN2.out]; rfl)
          as_aux_lemma =>
            gi_wp2_with fail
            refine ⟨trivial, callsIn_wide.2 ((spass_any a _ ax s2 ix V2 _ HP2.out.bx (HP2.out.ox.wide HP2.out.size) la).mono ?_)⟩
            rintro e' w3 ⟨⟨u3, rfl⟩, st3, bx3, ot3⟩
            have zy2 : s1 < w2.heap.size := (Array.getElem?_eq_some_iff.1 HP2.out.by_).1
            have by3 : SdBlk w3 s1 (.slice a2 b.length c2) ay iy := (ot3 _ zy2 (Ne.symm nxy)).trans HP2.out.by_
            have hn2 := HP2.out.size
            have low3 : ∀ q, q < n → w3.heap[q]? = w2.heap[q]? := fun q hq => ot3 q (by omega) (by omega)
            have z3 := st3.size
            have HJ3 := Lib.hid (HJ.out _ _ _ HP2.out.j ⟨st3, low3⟩)
            have HBX3 := Lib.hid bx3
            have HBY3 := Lib.hid by3
            have HLOW3 := Lib.hid low3
            have HOY3 := Lib.hid ((HP2.out.oy.kept low3).wide (show n ≤ w3.heap.size by omega))
            clear st3 bx3 ot3 by3 low3
            gi_wp2_with fail
            refine ⟨trivial, callsIn_wide.2 ((spass_any b _ ay s1 iy V2 _ HBY3.out HOY3.out lb).mono ?_)⟩
            rintro e' w4 ⟨⟨u4, rfl⟩, st4, by4, ot4⟩
            have zx3 : s2 < w3.heap.size := (Array.getElem?_eq_some_iff.1 HBX3.out).1
            have bx4 : SdBlk w4 s2 (.slice a1 a.length c1) (passA a ax ix V2).1 (passA a ax ix V2).2 := (ot4 _ zx3 nxy).trans HBX3.out
            have low4 : ∀ q, q < n → w4.heap[q]? = w3.heap[q]? := fun q hq => ot4 q (by omega) (by omega)
            have z4 := st4.size
            have HJ4 := Lib.hid (HJ.out _ _ _ HJ3.out ⟨st4, low4⟩)
            have HBX4 := Lib.hid bx4
            have HBY4 := Lib.hid by4
            have HLOW4 : Hid (∀ q, q < n → w4.heap[q]? = w2.heap[q]?) := Lib.hid (fun q hq => (low4 q hq).trans (HLOW3.out q hq))
            clear st4 by4 ot4 bx4 low4
            obtain ⟨⟨ax', ix'⟩, hA⟩ : ∃ q, passA a ax ix V2 = q := ⟨_, rfl⟩
            obtain ⟨⟨ay', iy'⟩, hB⟩ : ∃ q, passA b ay iy V2 = q := ⟨_, rfl⟩
            have HA := Lib.hid hA
            have HB := Lib.hid hB
            rw [hA] at HBX4
            rw [hB] at HBY4
            simp only at HBX4 HBY4
            have hcx : w4.heap[s2]? = some (.cells #[.slice a1 a.length c1, .int .i64 (ax' : Int), .bool ix'] 348 (0, 0)) := HBX4.out
            have hcy : w4.heap[s1]? = some (.cells #[.slice a2 b.length c2, .int .i64 (ay' : Int), .bool iy'] 348 (0, 0)) := HBY4.out
            have cx := cellB hcx 2
            have cy := cellB hcy 2
            have hz4 : n ≤ w4.heap.size := by omega
            have hpl : pre.length ≤ 10000 := by have := HP2.out.len; omega
            clear hA hB hcx hcy
            gi_wp2
            refine wpIn_region_plan (fun V => V.cell? ⟨s2, 2, none⟩ = some (.bool ix') ∧ V.cell? ⟨s1, 2, none⟩ = some (.bool iy')) [0, 0, 0, 0, 0, 1, 0, 0, 0, 1, 0, 3, 0] [0, 1, 2, 3, 4, 5, 6, 7, 8, 9, 10, 11, 12] (by kernel_rfl) (by kernel_rfl) ?_ ?_
            · exact ⟨cx, cy⟩
            (iterate 11 (refine plan_heldI rfl (by decide) (by rfl) (fun w1 => by rfl) (fun w1 hS => by (try (have hS := hS rfl; obtain hS := hS; repeat (obtain ⟨_, hS⟩ := hS))); go_simp; rfl) ?_; simp only [Act.put, List.setIfInBounds_toArray, List.set_cons_zero, List.set_cons_succ]))
            clear cx cy
            (refine plan_lateI rfl rfl (by rfl) (fun K hK => ?_))
            obtain ⟨fn, tmps, assign, body, hy, hR⟩ := HY.out pre (V2, ix', iy') _ _ HJ4.out (show Below w4.heap.size w4 w4.drew from belowA) (HJ.out _ _ _ HJ4.out (.low belowA hz4)) hpl trivial
            dsimp only [encQ] at hy
            go_simp
            refine hR.mono ?_
            clear hy hR
            rintro e W3 ⟨rfl, hj5, hk5⟩
            dsimp only
            refine hK _ _ ?_
            clear hK K
            have hj6 : J (pre ++ [(V2, (passA a ax ix V2).2, (passA b ay iy V2).2)]) W3 := by rw [HA.out, HB.out]; exact hj5
            have bx6 : SdBlk W3 s2 (.slice a1 a.length c1) (passA a ax ix V2).1 (passA a ax ix V2).2 := by rw [HA.out]; exact (hk5.2.2 _ _ _ HBX4.out).trans HBX4.out
            have by6 : SdBlk W3 s1 (.slice a2 b.length c2) (passA b ay iy V2).1 (passA b ay iy V2).2 := by rw [HB.out]; exact (hk5.2.2 _ _ _ HBY4.out).trans HBY4.out
            have zz : w2.heap.size ≤ W3.heap.size := Nat.le_trans (show w2.heap.size ≤ w4.heap.size by omega) hk5.1
            obtain ⟨f', hP6, hM6⟩ := HP2.out.step HT.out hj6 bx6 by6 (fun q hq => (hk5.2.1 q hq).trans (HLOW4.out q hq)) zz
            have HP6 := Lib.hid hP6
            have HM6 := Lib.hid hM6
            clear hj5 hk5 hj6 bx6 by6 hP6 hM6
            (iterate 1 (refine plan_heldI rfl (by decide) (by rfl) (fun w1 => by rfl) (fun w1 hS => by (try (have hS := hS rfl; obtain hS := hS; repeat (obtain ⟨_, hS⟩ := hS))); go_simp; rfl) ?_; simp only [Act.put, List.setIfInBounds_toArray, List.set_cons_zero, List.set_cons_succ]))
            refine plan_doneI ?_
            gi_wp2
            exact ⟨⟨_, _, _, _, _, _, HP6⟩, by rw [← HM.out]; exact HM6.out⟩
      | true =>
        cases E2 with
        | false =>
          have HT : Hid (tmin (nxt (a.drop ax, ix)) (nxt (b.drop ay, iy)) = some V1) := Lib.hid (by rw [HN1.out, HN2.out]; rfl)
          as_aux_lemma =>
            gi_wp2_with fail
            refine ⟨trivial, callsIn_wide.2 ((spass_any a _ ax s2 ix V1 _ HP2.out.bx (HP2.out.ox.wide HP2.out.size) la).mono ?_)⟩
            rintro e' w3 ⟨⟨u3, rfl⟩, st3, bx3, ot3⟩
            have zy2 : s1 < w2.heap.size := (Array.getElem?_eq_some_iff.1 HP2.out.by_).1
            have by3 : SdBlk w3 s1 (.slice a2 b.length c2) ay iy := (ot3 _ zy2 (Ne.symm nxy)).trans HP2.out.by_
            have hn2 := HP2.out.size
            have low3 : ∀ q, q < n → w3.heap[q]? = w2.heap[q]? := fun q hq => ot3 q (by omega) (by omega)
            have z3 := st3.size
            have HJ3 := Lib.hid (HJ.out _ _ _ HP2.out.j ⟨st3, low3⟩)
            have HBX3 := Lib.hid bx3
            have HBY3 := Lib.hid by3
            have HLOW3 := Lib.hid low3
            have HOY3 := Lib.hid ((HP2.out.oy.kept low3).wide (show n ≤ w3.heap.size by omega))
            clear st3 bx3 ot3 by3 low3
            gi_wp2_with fail
            refine ⟨trivial, callsIn_wide.2 ((spass_any b _ ay s1 iy V1 _ HBY3.out HOY3.out lb).mono ?_)⟩
            rintro e' w4 ⟨⟨u4, rfl⟩, st4, by4, ot4⟩
            have zx3 : s2 < w3.heap.size := (Array.getElem?_eq_some_iff.1 HBX3.out).1
            have bx4 : SdBlk w4 s2 (.slice a1 a.length c1) (passA a ax ix V1).1 (passA a ax ix V1).2 := (ot4 _ zx3 nxy).trans HBX3.out
            have low4 : ∀ q, q < n → w4.heap[q]? = w3.heap[q]? := fun q hq => ot4 q (by omega) (by omega)
            have z4 := st4.size
            have HJ4 := Lib.hid (HJ.out _ _ _ HJ3.out ⟨st4, low4⟩)
            have HBX4 := Lib.hid bx4
            have HBY4 := Lib.hid by4
            have HLOW4 : Hid (∀ q, q < n → w4.heap[q]? = w2.heap[q]?) := Lib.hid (fun q hq => (low4 q hq).trans (HLOW3.out q hq))
            clear st4 by4 ot4 bx4 low4
            obtain ⟨⟨ax', ix'⟩, hA⟩ : ∃ q, passA a ax ix V1 = q := ⟨_, rfl⟩
            obtain ⟨⟨ay', iy'⟩, hB⟩ : ∃ q, passA b ay iy V1 = q := ⟨_, rfl⟩
            have HA := Lib.hid hA
            have HB := Lib.hid hB
            rw [hA] at HBX4
            rw [hB] at HBY4
            simp only at HBX4 HBY4
            have hcx : w4.heap[s2]? = some (.cells #[.slice a1 a.length c1, .int .i64 (ax' : Int), .bool ix'] 348 (0, 0)) := HBX4.out
            have hcy : w4.heap[s1]? = some (.cells #[.slice a2 b.length c2, .int .i64 (ay' : Int), .bool iy'] 348 (0, 0)) := HBY4.out
            have cx := cellB hcx 2
            have cy := cellB hcy 2
            have hz4 : n ≤ w4.heap.size := by omega
            have hpl : pre.length ≤ 10000 := by have := HP2.out.len; omega
            clear hA hB hcx hcy
            gi_wp2
            refine wpIn_region_plan (fun V => V.cell? ⟨s2, 2, none⟩ = some (.bool ix') ∧ V.cell? ⟨s1, 2, none⟩ = some (.bool iy')) [0, 0, 0, 0, 0, 1, 0, 0, 0, 1, 0, 3, 0] [0, 1, 2, 3, 4, 5, 6, 7, 8, 9, 10, 11, 12] (by kernel_rfl) (by kernel_rfl) ?_ ?_
            · exact ⟨cx, cy⟩
            (iterate 11 (refine plan_heldI rfl (by decide) (by rfl) (fun w1 => by rfl) (fun w1 hS => by (try (have hS := hS rfl; obtain hS := hS; repeat (obtain ⟨_, hS⟩ := hS))); go_simp; rfl) ?_; simp only [Act.put, List.setIfInBounds_toArray, List.set_cons_zero, List.set_cons_succ]))
            clear cx cy
            (refine plan_lateI rfl rfl (by rfl) (fun K hK => ?_))
            obtain ⟨fn, tmps, assign, body, hy, hR⟩ := HY.out pre (V1, ix', iy') _ _ HJ4.out (show Below w4.heap.size w4 w4.drew from belowA) (HJ.out _ _ _ HJ4.out (.low belowA hz4)) hpl trivial
            dsimp only [encQ] at hy
            go_simp
            refine hR.mono ?_
            clear hy hR
            rintro e W3 ⟨rfl, hj5, hk5⟩
            dsimp only
            refine hK _ _ ?_
            clear hK K
            have hj6 : J (pre ++ [(V1, (passA a ax ix V1).2, (passA b ay iy V1).2)]) W3 := by rw [HA.out, HB.out]; exact hj5
            have bx6 : SdBlk W3 s2 (.slice a1 a.length c1) (passA a ax ix V1).1 (passA a ax ix V1).2 := by rw [HA.out]; exact (hk5.2.2 _ _ _ HBX4.out).trans HBX4.out
            have by6 : SdBlk W3 s1 (.slice a2 b.length c2) (passA b ay iy V1).1 (passA b ay iy V1).2 := by rw [HB.out]; exact (hk5.2.2 _ _ _ HBY4.out).trans HBY4.out
            have zz : w2.heap.size ≤ W3.heap.size := Nat.le_trans (show w2.heap.size ≤ w4.heap.size by omega) hk5.1
            obtain ⟨f', hP6, hM6⟩ := HP2.out.step HT.out hj6 bx6 by6 (fun q hq => (hk5.2.1 q hq).trans (HLOW4.out q hq)) zz
            have HP6 := Lib.hid hP6
            have HM6 := Lib.hid hM6
            clear hj5 hk5 hj6 bx6 by6 hP6 hM6
            (iterate 1 (refine plan_heldI rfl (by decide) (by rfl) (fun w1 => by rfl) (fun w1 hS => by (try (have hS := hS rfl; obtain hS := hS; repeat (obtain ⟨_, hS⟩ := hS))); go_simp; rfl) ?_; simp only [Act.put, List.setIfInBounds_toArray, List.set_cons_zero, List.set_cons_succ]))
            refine plan_doneI ?_
            gi_wp2
            exact ⟨⟨_, _, _, _, _, _, HP6⟩, by rw [← HM.out]; exact HM6.out⟩
        | true =>
          by_cases z : V2 < V1
          · have HT : Hid (tmin (nxt (a.drop ax, ix)) (nxt (b.drop ay, iy)) = some V2) := Lib.hid (by rw [HN1.out, HN2.out]; simp [tmin, z])
            have dz : decide (V2 < V1) = true := decide_eq_true z
            clear z
            as_aux_lemma =>
              gi_wp2_with fail
              refine ⟨trivial, callsIn_wide.2 ((spass_any a _ ax s2 ix V2 _ HP2.out.bx (HP2.out.ox.wide HP2.out.size) la).mono ?_)⟩
              rintro e' w3 ⟨⟨u3, rfl⟩, st3, bx3, ot3⟩
              have zy2 : s1 < w2.heap.size := (Array.getElem?_eq_some_iff.1 HP2.out.by_).1
              have by3 : SdBlk w3 s1 (.slice a2 b.length c2) ay iy := (ot3 _ zy2 (Ne.symm nxy)).trans HP2.out.by_
              have hn2 := HP2.out.size
              have low3 : ∀ q, q < n → w3.heap[q]? = w2.heap[q]? := fun q hq => ot3 q (by omega) (by omega)
              have z3 := st3.size
              have HJ3 := Lib.hid (HJ.out _ _ _ HP2.out.j ⟨st3, low3⟩)
              have HBX3 := Lib.hid bx3
              have HBY3 := Lib.hid by3
              have HLOW3 := Lib.hid low3
              have HOY3 := Lib.hid ((HP2.out.oy.kept low3).wide (show n ≤ w3.heap.size by omega))
              clear st3 bx3 ot3 by3 low3
              gi_wp2_with fail
              refine ⟨trivial, callsIn_wide.2 ((spass_any b _ ay s1 iy V2 _ HBY3.out HOY3.out lb).mono ?_)⟩
              rintro e' w4 ⟨⟨u4, rfl⟩, st4, by4, ot4⟩
              have zx3 : s2 < w3.heap.size := (Array.getElem?_eq_some_iff.1 HBX3.out).1
              have bx4 : SdBlk w4 s2 (.slice a1 a.length c1) (passA a ax ix V2).1 (passA a ax ix V2).2 := (ot4 _ zx3 nxy).trans HBX3.out
              have low4 : ∀ q, q < n → w4.heap[q]? = w3.heap[q]? := fun q hq => ot4 q (by omega) (by omega)
              have z4 := st4.size
              have HJ4 := Lib.hid (HJ.out _ _ _ HJ3.out ⟨st4, low4⟩)
              have HBX4 := Lib.hid bx4
              have HBY4 := Lib.hid by4
              have HLOW4 : Hid (∀ q, q < n → w4.heap[q]? = w2.heap[q]?) := Lib.hid (fun q hq => (low4 q hq).trans (HLOW3.out q hq))
              clear st4 by4 ot4 bx4 low4
              obtain ⟨⟨ax', ix'⟩, hA⟩ : ∃ q, passA a ax ix V2 = q := ⟨_, rfl⟩
              obtain ⟨⟨ay', iy'⟩, hB⟩ : ∃ q, passA b ay iy V2 = q := ⟨_, rfl⟩
              have HA := Lib.hid hA
              have HB := Lib.hid hB
              rw [hA] at HBX4
              rw [hB] at HBY4
              simp only at HBX4 HBY4
              have hcx : w4.heap[s2]? = some (.cells #[.slice a1 a.length c1, .int .i64 (ax' : Int), .bool ix'] 348 (0, 0)) := HBX4.out
              have hcy : w4.heap[s1]? = some (.cells #[.slice a2 b.length c2, .int .i64 (ay' : Int), .bool iy'] 348 (0, 0)) := HBY4.out
              have cx := cellB hcx 2
              have cy := cellB hcy 2
              have hz4 : n ≤ w4.heap.size := by omega
              have hpl : pre.length ≤ 10000 := by have := HP2.out.len; omega
              clear hA hB hcx hcy
              gi_wp2
              refine wpIn_region_plan (fun V => V.cell? ⟨s2, 2, none⟩ = some (.bool ix') ∧ V.cell? ⟨s1, 2, none⟩ = some (.bool iy')) [0, 0, 0, 0, 0, 1, 0, 0, 0, 1, 0, 3, 0] [0, 1, 2, 3, 4, 5, 6, 7, 8, 9, 10, 11, 12] (by kernel_rfl) (by kernel_rfl) ?_ ?_
              · exact ⟨cx, cy⟩
              (iterate 11 (refine plan_heldI rfl (by decide) (by rfl) (fun w1 => by rfl) (fun w1 hS => by (try (have hS := hS rfl; obtain hS := hS; repeat (obtain ⟨_, hS⟩ := hS))); go_simp; rfl) ?_; simp only [Act.put, List.setIfInBounds_toArray, List.set_cons_zero, List.set_cons_succ]))
              clear cx cy
              (refine plan_lateI rfl rfl (by rfl) (fun K hK => ?_))
              obtain ⟨fn, tmps, assign, body, hy, hR⟩ := HY.out pre (V2, ix', iy') _ _ HJ4.out (show Below w4.heap.size w4 w4.drew from belowA) (HJ.out _ _ _ HJ4.out (.low belowA hz4)) hpl trivial
              dsimp only [encQ] at hy
              go_simp
              refine hR.mono ?_
              clear hy hR
              rintro e W3 ⟨rfl, hj5, hk5⟩
              dsimp only
              refine hK _ _ ?_
              clear hK K
              have hj6 : J (pre ++ [(V2, (passA a ax ix V2).2, (passA b ay iy V2).2)]) W3 := by rw [HA.out, HB.out]; exact hj5
              have bx6 : SdBlk W3 s2 (.slice a1 a.length c1) (passA a ax ix V2).1 (passA a ax ix V2).2 := by rw [HA.out]; exact (hk5.2.2 _ _ _ HBX4.out).trans HBX4.out
              have by6 : SdBlk W3 s1 (.slice a2 b.length c2) (passA b ay iy V2).1 (passA b ay iy V2).2 := by rw [HB.out]; exact (hk5.2.2 _ _ _ HBY4.out).trans HBY4.out
              have zz : w2.heap.size ≤ W3.heap.size := Nat.le_trans (show w2.heap.size ≤ w4.heap.size by omega) hk5.1
              obtain ⟨f', hP6, hM6⟩ := HP2.out.step HT.out hj6 bx6 by6 (fun q hq => (hk5.2.1 q hq).trans (HLOW4.out q hq)) zz
              have HP6 := Lib.hid hP6
              have HM6 := Lib.hid hM6
              clear hj5 hk5 hj6 bx6 by6 hP6 hM6
              (iterate 1 (refine plan_heldI rfl (by decide) (by rfl) (fun w1 => by rfl) (fun w1 hS => by (try (have hS := hS rfl; obtain hS := hS; repeat (obtain ⟨_, hS⟩ := hS))); go_simp; rfl) ?_; simp only [Act.put, List.setIfInBounds_toArray, List.set_cons_zero, List.set_cons_succ]))
              refine plan_doneI ?_
              gi_wp2
              exact ⟨⟨_, _, _, _, _, _, HP6⟩, by rw [← HM.out]; exact HM6.out⟩
          · have HT : Hid (tmin (nxt (a.drop ax, ix)) (nxt (b.drop ay, iy)) = some V1) := Lib.hid (by rw [HN1.out, HN2.out]; simp [tmin, z])
            have dz : decide (V2 < V1) = false := decide_eq_false z
            clear z
            as_aux_lemma =>
              gi_wp2_with fail
              refine ⟨trivial, callsIn_wide.2 ((spass_any a _ ax s2 ix V1 _ HP2.out.bx (HP2.out.ox.wide HP2.out.size) la).mono ?_)⟩
              rintro e' w3 ⟨⟨u3, rfl⟩, st3, bx3, ot3⟩
              have zy2 : s1 < w2.heap.size := (Array.getElem?_eq_some_iff.1 HP2.out.by_).1
              have by3 : SdBlk w3 s1 (.slice a2 b.length c2) ay iy := (ot3 _ zy2 (Ne.symm nxy)).trans HP2.out.by_
              have hn2 := HP2.out.size
              have low3 : ∀ q, q < n → w3.heap[q]? = w2.heap[q]? := fun q hq => ot3 q (by omega) (by omega)
              have z3 := st3.size
              have HJ3 := Lib.hid (HJ.out _ _ _ HP2.out.j ⟨st3, low3⟩)
              have HBX3 := Lib.hid bx3
              have HBY3 := Lib.hid by3
              have HLOW3 := Lib.hid low3
              have HOY3 := Lib.hid ((HP2.out.oy.kept low3).wide (show n ≤ w3.heap.size by omega))
              clear st3 bx3 ot3 by3 low3
              gi_wp2_with fail
              refine ⟨trivial, callsIn_wide.2 ((spass_any b _ ay s1 iy V1 _ HBY3.out HOY3.out lb).mono ?_)⟩
              rintro e' w4 ⟨⟨u4, rfl⟩, st4, by4, ot4⟩
              have zx3 : s2 < w3.heap.size := (Array.getElem?_eq_some_iff.1 HBX3.out).1
              have bx4 : SdBlk w4 s2 (.slice a1 a.length c1) (passA a ax ix V1).1 (passA a ax ix V1).2 := (ot4 _ zx3 nxy).trans HBX3.out
              have low4 : ∀ q, q < n → w4.heap[q]? = w3.heap[q]? := fun q hq => ot4 q (by omega) (by omega)
              have z4 := st4.size
              have HJ4 := Lib.hid (HJ.out _ _ _ HJ3.out ⟨st4, low4⟩)
              have HBX4 := Lib.hid bx4
              have HBY4 := Lib.hid by4
              have HLOW4 : Hid (∀ q, q < n → w4.heap[q]? = w2.heap[q]?) := Lib.hid (fun q hq => (low4 q hq).trans (HLOW3.out q hq))
              clear st4 by4 ot4 bx4 low4
              obtain ⟨⟨ax', ix'⟩, hA⟩ : ∃ q, passA a ax ix V1 = q := ⟨_, rfl⟩
              obtain ⟨⟨ay', iy'⟩, hB⟩ : ∃ q, passA b ay iy V1 = q := ⟨_, rfl⟩
              have HA := Lib.hid hA
              have HB := Lib.hid hB
              rw [hA] at HBX4
              rw [hB] at HBY4
              simp only at HBX4 HBY4
              have hcx : w4.heap[s2]? = some (.cells #[.slice a1 a.length c1, .int .i64 (ax' : Int), .bool ix'] 348 (0, 0)) := HBX4.out
              have hcy : w4.heap[s1]? = some (.cells #[.slice a2 b.length c2, .int .i64 (ay' : Int), .bool iy'] 348 (0, 0)) := HBY4.out
              have cx := cellB hcx 2
              have cy := cellB hcy 2
              have hz4 : n ≤ w4.heap.size := by omega
              have hpl : pre.length ≤ 10000 := by have := HP2.out.len; omega
              clear hA hB hcx hcy
              gi_wp2
              refine wpIn_region_plan (fun V => V.cell? ⟨s2, 2, none⟩ = some (.bool ix') ∧ V.cell? ⟨s1, 2, none⟩ = some (.bool iy')) [0, 0, 0, 0, 0, 1, 0, 0, 0, 1, 0, 3, 0] [0, 1, 2, 3, 4, 5, 6, 7, 8, 9, 10, 11, 12] (by kernel_rfl) (by kernel_rfl) ?_ ?_
              · exact ⟨cx, cy⟩
              (iterate 11 (refine plan_heldI rfl (by decide) (by rfl) (fun w1 => by rfl) (fun w1 hS => by (try (have hS := hS rfl; obtain hS := hS; repeat (obtain ⟨_, hS⟩ := hS))); go_simp; rfl) ?_; simp only [Act.put, List.setIfInBounds_toArray, List.set_cons_zero, List.set_cons_succ]))
              clear cx cy
              (refine plan_lateI rfl rfl (by rfl) (fun K hK => ?_))
              obtain ⟨fn, tmps, assign, body, hy, hR⟩ := HY.out pre (V1, ix', iy') _ _ HJ4.out (show Below w4.heap.size w4 w4.drew from belowA) (HJ.out _ _ _ HJ4.out (.low belowA hz4)) hpl trivial
              dsimp only [encQ] at hy
              go_simp
              refine hR.mono ?_
              clear hy hR
              rintro e W3 ⟨rfl, hj5, hk5⟩
              dsimp only
              refine hK _ _ ?_
              clear hK K
              have hj6 : J (pre ++ [(V1, (passA a ax ix V1).2, (passA b ay iy V1).2)]) W3 := by rw [HA.out, HB.out]; exact hj5
              have bx6 : SdBlk W3 s2 (.slice a1 a.length c1) (passA a ax ix V1).1 (passA a ax ix V1).2 := by rw [HA.out]; exact (hk5.2.2 _ _ _ HBX4.out).trans HBX4.out
              have by6 : SdBlk W3 s1 (.slice a2 b.length c2) (passA b ay iy V1).1 (passA b ay iy V1).2 := by rw [HB.out]; exact (hk5.2.2 _ _ _ HBY4.out).trans HBY4.out
              have zz : w2.heap.size ≤ W3.heap.size := Nat.le_trans (show w2.heap.size ≤ w4.heap.size by omega) hk5.1
              obtain ⟨f', hP6, hM6⟩ := HP2.out.step HT.out hj6 bx6 by6 (fun q hq => (hk5.2.1 q hq).trans (HLOW4.out q hq)) zz
              have HP6 := Lib.hid hP6
              have HM6 := Lib.hid hM6
              clear hj5 hk5 hj6 bx6 by6 hP6 hM6
              (iterate 1 (refine plan_heldI rfl (by decide) (by rfl) (fun w1 => by rfl) (fun w1 hS => by (try (have hS := hS rfl; obtain hS := hS; repeat (obtain ⟨_, hS⟩ := hS))); go_simp; rfl) ?_; simp only [Act.put, List.setIfInBounds_toArray, List.set_cons_zero, List.set_cons_succ]))
              refine plan_doneI ?_
              gi_wp2
              exact ⟨⟨_, _, _, _, _, _, HP6⟩, by rw [← HM.out]; exact HM6.out⟩
end Go.Proofs.YtmknchdciblfjaaGreat
