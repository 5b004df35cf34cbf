/- slices.Values, slices.AppendSeq, slices.Collect over spans. -/
import Derived.BigQuiet
import Derived.BigRegion
import Derived.Deep.DeepCutAuto
import Derived.Deep.CutBlock
import Derived.RangeFuncNested
import Derived.RangeFuncBound
import Derived.RangeFuncCalls
import Derived.RangeFuncLeaves
import Derived.RangeFuncBox
import Derived.RangeFuncFrom
import Derived.Shelf.Abstract
import Derived.Shelf.RegionOpen
import Derived.WalkKit
import Derived.OwnWalkIn
import Derived.TacticsInMore
import Derived.LoopNIn
import Derived.LoopIn
import Derived.Test.YtlgjnelicnaopaaGreatYi
import Derived.Test.YtlgjnelicnaopaaGreatSi
set_option linter.unusedVariables false
set_option linter.unusedSimpArgs false
namespace Go.Proofs.YtlgjnelicnaopaaGreat
open Go Go.RowKit Go.Shelf Iv
attribute [local go_sem] Oper.semAt_some
attribute [local go_sem] B_getElem B_size B_app B_extract B_get B_toList

/-- the call hands back a row of its own -/
def OwnRet (r : List Sp) (w : World) (e : Ending) (w' : World) : Prop := ∃ u, e = .returned u ∧ w'.ownsRow w.heap.size 46 2 u r.length (sps r) ∧ Below w.heap.size w w'
theorem own_base {w : World} {b b' n s : Nat} {e : TypeId} {v : Value} {xs : List Value} (h : w.ownsRow b e s v n xs) (k : b' ≤ b) : w.ownsRow b' e s v n xs := by
  refine ⟨h.1, ?_⟩
  rcases h.2 with h0 | ⟨g, cap, cur, rfl, hb, r⟩
  · exact .inl h0
  · exact .inr ⟨g, cap, cur, rfl, by omega, r⟩

theorem vals_in (F : Fence) (n : Nat) (h : F.fn 28) (hro : F.round = none) (a : Option Addr) (k c : Nat) (w : World) :
    CallsIn F n Tryz.prog 28 #[.slice a k c] w fun e W' => e = .returned (.func (.func 61) #[] #[.pointer (some ⟨w.heap.size, 0, none⟩)]) ∧ W' = w.alloc (.cells #[.slice a k c] 36) := by
  refine callsIn_of_wp Tryz.func28 rfl h ?_ hro
  simp only [Tryz.ntmps28, List.size_toArray, List.length_cons, List.length_nil, Nat.reduceAdd, Nat.reduceSub, Array.replicate_succ, Array.replicate_zero, List.push_toArray, List.append_toArray, List.nil_append, List.cons_append]
  gi_wp2
  refine bodyPost_ret (results_tmp rfl _ _ _) rfl ?_
  exact ⟨rfl, rfl⟩
set_option maxRecDepth 100000 in
set_option maxHeartbeats 4000000 in
theorem vals_stops (z n₀ zx : Nat) (M : List Sp) (a : Option Addr) (c : Nat) (W0 : World) (hz : z < n₀) (hzx : z ≠ zx) (hn : n₀ ≤ W0.heap.size) (hbox : W0.heap[z]? = some (.cells #[.slice a M.length c] 36 (0, 0)))
    (h4 : 0 < M.length → ∃ b o, a = some ⟨b, o, none⟩ ∧ b < n₀ ∧ b ≠ zx ∧ ∀ (j : Nat) (u : Value), (sps M)[j]? = some u → W0.cell? ⟨b, o + j, none⟩ = some u) (hl : M.length ≤ 1000) :
    SeqStopsK Fence.wide 11 Tryz.prog 61 #[.pointer (some ⟨z, 0, none⟩)] (fun x : Sp => #[Value.agg #[.int .i64 x.1, .int .i64 x.2]]) (KpX n₀ zx) (fun ys => ys = M) (fun _ => True) M.length W0 := by
  intro l J Jx W hWb hJ hJx hY hJ0
  have H4 := Lib.hid h4
  have HBX : Hid (W.heap[z]? = some (.cells #[.slice a M.length c] 36 (0, 0))) := Lib.hid ((hWb.block _ (by omega)).trans hbox)
  have hWs := hWb.size
  have hlen : M.length ≤ 9223372036854775807 := by omega
  have HAL : ∀ pre V o, W.heap.size ≤ V.heap.size → J pre V → J pre (V.alloc o) := fun pre V o _ h => hJ pre V _ none h (World.grownBy_alloc _ _ _) (fun r e => by cases e)
  clear h4 hbox
  refine callsIn_of_wp Tryz.func61 rfl trivial ?_ rfl
  simp only [Tryz.ntmps61, List.size_toArray, List.length_cons, List.length_nil, Nat.reduceAdd, Nat.reduceSub, Array.replicate_succ, Array.replicate_zero, List.push_toArray, List.append_toArray, List.nil_append, List.cons_append]
  have cz := cellB HBX.out 0
  gi_wp2
  gi_loopw [7] (fun kv w1 => ∃ k : Nat, k ≤ M.length ∧ kv = .int .i64 (k : Int) ∧ Hid (J (M.take k) w1) ∧ KpX n₀ zx W w1) (fun kv _ => M.length - (intOf kv).toNat)
  case atStart => exact ⟨0, Nat.zero_le _, rfl, Lib.hid hJ0, KpX.refl _ _ _⟩
  case round =>
    obtain ⟨k, hk, rfl, HJk, hB⟩ := hrel
    have hsr : W.heap.size ≤ wr.heap.size := hB.1
    by_cases hlt : k < M.length
    · obtain ⟨bb, o, rfl, hbn, hbx, hcell⟩ := H4.out (by omega)
      obtain ⟨x, hx⟩ : ∃ x, M[k]? = some x := ⟨_, List.getElem?_eq_getElem hlt⟩
      have kc : ∀ p, wr.cell? ⟨bb, p, none⟩ = W0.cell? ⟨bb, p, none⟩ := fun p => (hB.cell (p := ⟨bb, p, none⟩) hbn hbx).trans (hWb.cell (p := ⟨bb, p, none⟩) (by show bb < W0.heap.size; omega))
      have q0 : wr.cell? ⟨bb, o + k * 2, none⟩ = some (.int .i64 x.1) := (kc _).trans (sp0 hcell hx)
      have q1 : wr.cell? ⟨bb, o + k * 2 + 1, none⟩ = some (.int .i64 x.2) := (kc _).trans (sp1 hcell hx)
      have k0 : (0 : Int) ≤ (k : Int) := by omega
      have k1 : (k : Int) < (M.length : Int) := by omega
      have HT : Hid (M.take (k + 1) = M.take k ++ [x]) := Lib.hid (by rw [List.take_add_one, hx]; rfl)
      have hJ6 := HAL _ wr (.cells #[.int .i64 x.1, .int .i64 x.2] 46) hsr HJk.out
      obtain ⟨fn, tmps, assign, body, hy, hR⟩ := hY (M.take k) x _ hJ6 (by rw [List.length_take]; omega)
      have HR := Lib.hid hR
      have cx := fun q => cellB (heap_new (W := wr) (o := .cells #[.int .i64 x.1, .int .i64 x.2] 46)) q
      clear hcell hx hR kc hJ6
      gi_wp2
      refine HR.out.mono ?_
      rintro e W3 (⟨rfl, hJ3, hk3⟩ | ⟨rfl, hJx3⟩)
      · gi_wp2
        go_roundw
        case rel => exact ⟨k + 1, by omega, by go_num, Lib.hid (by rw [HT.out]; exact hJ3), hB.trans (KpX.trans ⟨by simp, fun q hq _ => Below.heap_alloc _ _ _ (by omega)⟩ hk3)⟩
        case measure => simp [intOf]; omega
      · gi_wp2
        refine bodyPost_ret (results_none rfl _ _ _) rfl ?_
        exact ⟨⟨_, rfl⟩, .inr ⟨_, trivial, hJx3⟩⟩
    · obtain rfl : k = M.length := by omega
      have HE : Hid (J M wr) := Lib.hid (by have := HJk.out; rwa [List.take_length] at this)
      gi_wp2
      go_end0
      exact ⟨⟨_, rfl⟩, .inl ⟨M, rfl, HE.out⟩⟩
theorem ownCs {A B' : World} {row : Option Nat} {Pr : Nat → Prop} (hg : A.grownBy B' row) (hr : ∀ r, row = some r → Pr r ∧ ∃ o : Obj, A.heap[r]? = some o ∧ o.isCells = false) (q : Nat) (cs : Array Value) (e : TypeId) (f : Nat × Nat) (hq : A.heap[q]? = some (.cells cs e f)) : B'.heap[q]? = A.heap[q]? := by
  have hlt : q < A.heap.size := (Array.getElem?_eq_some_iff.1 hq).1
  refine hg.block q hlt (fun e' => ?_)
  obtain ⟨_, o, ho, hc⟩ := hr q e'.symm
  rw [hq] at ho
  injection ho with ho
  subst ho
  cases hc
set_option maxRecDepth 100000 in
set_option maxHeartbeats 4000000 in
theorem apseq_any (M : List Sp) (a : Option Addr) (c z : Nat) (w : World) (hbox : w.heap[z]? = some (.cells #[.slice a M.length c] 36 (0, 0))) (hr : RSps w w.heap.size (.slice a M.length c) M) (hl : M.length ≤ 1000) :
    Calls Tryz.prog 95 #[.slice none 0 0, .func (.func 61) #[] #[.pointer (some ⟨z, 0, none⟩)]] w (OwnRet M w) := by
  refine (callsIn_wide (n := 12)).1 ?_
  have hz : z < w.heap.size := (Array.getElem?_eq_some_iff.1 hbox).1
  have HR := Lib.hid hr
  have HBX := Lib.hid hbox
  obtain ⟨i0, hin, hz0, hz1, hz2⟩ := info_parts infoSpan
  clear hr hbox
  refine callsIn_of_wp_marks Tryz.func95 rfl trivial ?_ rfl
  simp only [Tryz.ntmps95, List.size_toArray, List.length_cons, List.length_nil, Nat.reduceAdd, Nat.reduceSub, Array.replicate_succ, Array.replicate_zero, List.push_toArray, List.append_toArray, List.nil_append, List.cons_append]
  gi_wp2
  obtain ⟨W0, hW0⟩ : ∃ W0, w.alloc (.cells #[.slice none 0 0] 36) = W0 := ⟨_, rfl⟩
  rw [hW0]
  have hs0 : w.heap.size < W0.heap.size := by rw [← hW0]; simp
  have hB0 : Below w.heap.size w W0 := by rw [← hW0]; exact belowA
  have hout0 : Boxed W0 w.heap.size 36 (.slice none 0 0) := by rw [← hW0]; exact heap_new
  have hbx0 : W0.heap[z]? = some (.cells #[.slice a M.length c] 36 (0, 0)) := (hB0.block _ hz).trans HBX.out
  have h40 : 0 < M.length → ∃ b o, a = some ⟨b, o, none⟩ ∧ b < W0.heap.size ∧ b ≠ w.heap.size ∧ ∀ (j : Nat) (u : Value), (sps M)[j]? = some u → W0.cell? ⟨b, o + j, none⟩ = some u := by
    intro hp
    obtain ⟨a', c', e, _, _, _, h4⟩ := HR.out
    injection e with e1 e2 e3
    subst e1
    obtain ⟨b, o, rfl, hb, hc⟩ := h4 hp
    exact ⟨b, o, rfl, by omega, by omega, fun j u hu => (hB0.cell (p := ⟨b, o + j, none⟩) hb).trans (hc j u hu)⟩
  clear hW0
  refine wpIn_rangeFunc_ownH rfl (by omega) (gf := 61) (lb := #[.pointer (some ⟨z, 0, none⟩)]) rfl trivial (enters_of Tryz.func61 (by kernel_rfl) rfl)
    (vals_stops z W0.heap.size w.heap.size M a c W0 (by omega) (by omega) (Nat.le_refl _) hbx0 h40 hl) (fun h k => h.trans k) (fun W l o o' hl _ _ _ => KpX.putObj W o' hl) (Below.refl _ _) (fun _ => rfl)
    (fun pre W => (∃ vo, Boxed W w.heap.size 36 vo ∧ W.ownsRow W0.heap.size 46 2 vo pre.length (sps pre)) ∧ (Below w.heap.size w W ∧ W0.heap.size ≤ W.heap.size))
    (fun _ _ _ => False) ?hI (fun _ _ _ _ _ hs _ _ => hs) ?h0
    (fun x a' W => ∃ Bx, W0.heap.size ≤ Bx ∧ Bx < W.heap.size ∧ W.heap[Bx]? = some (.cells #[.int .i64 x.1, .int .i64 x.2] 46 (0, 0)) ∧ a' = { tmps := #[.slice none 0 0, .func (.func 61) #[] #[.pointer (some ⟨z, 0, none⟩)], .pointer (some ⟨w.heap.size, 0, none⟩), undef, .slice none 0 0, .pointer (some ⟨Bx, 0, none⟩), .func (.func 61) #[] #[.pointer (some ⟨z, 0, none⟩)], .agg #[.int .i64 x.1, .int .i64 x.2], undef, undef, undef, undef, undef], defers := [] }) ?hA ?assign ?body ?done ?stop
  case hI =>
    refine OwnFrom.and (fun s A C row hs hg hr => ?_) (OwnFrom.and (ownFrom_below (Nat.le_refl _) hB0.size) (fun s A C row hs hg hr => Nat.le_trans hs hg.size))
    obtain ⟨vo, h1, h2⟩ := hs
    exact ⟨vo, (ownCs hg hr _ _ _ _ h1).trans h1, own_kept1 h2 (fun q hq => by
      obtain ⟨cur, e⟩ := own_at h2 hq
      exact ownCs hg hr _ _ _ _ e)⟩
  case h0 => exact ⟨⟨_, hout0, World.ownsRow_nil _ _ _ _⟩, hB0, Nat.le_refl _⟩
  case hA =>
    intro x a' s A C row hs hg hr
    obtain ⟨Bx, e1, e2, e3, e4⟩ := hs
    exact ⟨Bx, e1, Nat.lt_of_lt_of_le e2 hg.size, (ownCs hg hr _ _ _ _ e3).trans e3, e4⟩
  case assign =>
    rintro l pre x W K' ⟨⟨vo, h1, h2⟩, hB, hW0⟩ hK'
    gi_wp2
    refine hK' _ _ ((KeepsOthers.alloc _ _).from _) ?_ ⟨⟨vo, h1.alloc _, own_kept1 h2 (fun q hq => Below.heap_alloc _ _ _ (h2.lt q hq).2)⟩, hB.alloc hB.size _, by simp; omega⟩ ⟨W.heap.size, hW0, by simp, heap_new, rfl⟩
    exact ⟨by simp, fun k hk _ => Below.heap_alloc _ _ _ (by omega)⟩
  case body =>
    rintro l pre x a' W hll ⟨r, hr⟩ ⟨⟨vo, h1, h2⟩, hB, hW0⟩ ⟨Bx, e1, e2, e3, rfl⟩ hlt
    have HO := Lib.hid h2
    have HB1 := Lib.hid h1
    have c1 := h1.cell
    have f1 := h1.frozen
    have c3 := fun o => cellB e3 o
    have l1 := h1.lt
    obtain ⟨va, vc, rfl⟩ := own_shape h2
    have hpl : pre.length < 1000 := by omega
    clear h2 h1
    gi_wp2_with (gi_at_builtin; refine wpListIn_append_lies _ rfl _ _ _ rfl rfl W0.heap.size 46 i0 _ 2 16 Tryz.underlying36 hin hz0 hz1 hz2 rfl (by omega) (.slice va pre.length vc) pre.length (sps pre) rfl (own_kept1 HO.out (fun q hq => Below.heap_alloc _ _ _ (HO.out.lt q hq).2)) ⟨W.heap.size, 0, none⟩ 1 1 (spC x) rfl rfl (news_one heap_new) (by simp [spC, Value.oneCell']) (by omega) (by simp only [maxLen]; omega) (by omega) (by simp; omega) (W.heap.size + 1) (by simp) ?_; intro g cap w9 ho9 hg9 ha9 hl9; have hz9 : w.heap.size < w9.heap.size := (by have := hg9.size; simp at this; omega); have HB9 : Hid (Boxed w9 w.heap.size 36 (.slice va pre.length vc)) := Lib.hid ((grown_keep hg9 (by simp; omega) (fun e => by have := (HO.out.lt _ e).1; omega)).trans ((Below.heap_alloc _ _ _ (by omega)).trans HB1.out)); have c9 := HB9.out.cell; have f9 := HB9.out.frozen)
    have hal : Below W.heap.size W (W.alloc (.cells (spC x).toArray 46)) := balloc0 (Below.refl _ _)
    have hvo : ∀ q, (Value.slice va pre.length vc).ownBlock = some q → W0.heap.size ≤ q ∧ q < W.heap.size := fun q hq => HO.out.lt q hq
    refine ⟨⟨by have := hg9.size; simp at this ⊢; omega, fun k o hk ho hc => ?_⟩, ⟨by have := hg9.size; simp at this ⊢; omega, fun k hk hne => ?_⟩, ⟨_, HB9.out.set _, ?_⟩, ?_, by have := hg9.size; simp at this ⊢; omega⟩
    · have hkl : k < W.heap.size := (Array.getElem?_eq_some_iff.1 ho).1
      rw [Below.heap_setCell _ _ _ _ (by show k ≠ w.heap.size; omega), hg9.block k (by simp; omega) (fun e => ?_), Below.heap_alloc _ _ _ (by omega), ho]
      obtain ⟨cur, hcs⟩ := own_at HO.out e.symm
      rw [ho] at hcs
      injection hcs with hcs
      subst hcs
      cases hc
    · rw [Below.heap_setCell _ _ _ _ (by show k ≠ w.heap.size; omega), hg9.block k (by simp; omega) (fun e => ?_), Below.heap_alloc _ _ _ (by omega)]
      have := (hvo k e.symm).1
      omega
    · rw [List.length_append, sps_append]
      refine own_kept1 (w := w9) (by simpa [sps] using ho9) fun q hq => Below.heap_setCell _ _ _ _ (by
        have := (ho9.lt _ hq).1
        show q ≠ w.heap.size
        omega)
    · exact bset (Below.grown (hB.trans (hal.mono (by omega))) hg9 (by simp; omega) (fun q hq => by have := hvo q hq; omega)) (Nat.le_refl _)
  case done =>
    rintro D ys W hD rfl ⟨⟨vo, h1, h2⟩, hB, hW0⟩ hK'
    have c1 := h1.cell
    gi_wp2
    refine ⟨by simp, .inl ⟨_, _, rfl, run_takeDeferred hK', ?_⟩⟩
    refine ⟨_, results_tmp rfl _ _ _, vo, rfl, own_base (own_kept1 h2 (fun q hq => ?_)) (by omega), hB.grown (grownBy_putObj' W D _) hB.size (fun q hq => by injection hq with hq; omega)⟩
    refine (grownBy_putObj' W D _).block q (h2.lt q hq).2 (fun e' => ?_)
    injection e' with e'
    subst e'
    obtain ⟨cur, e⟩ := own_at h2 hq
    rw [hK'] at e
    cases e
  case stop =>
    rintro D c pre W _ _ h _
    exact h.elim
end Go.Proofs.YtlgjnelicnaopaaGreat
