/- Walk of layer 17 (fragment): divide. -/
import Derived.Test.YtibfchdhppdccaaFh
import Derived.Test.YtibfchdhppdccaaOb
set_option linter.unusedVariables false
set_option linter.unusedSimpArgs false
namespace Go.Proofs.Ytibfchdhppdccaa
open Go Go.RowKit Go.Shelf
attribute [local go_sem] Oper.semAt_some

def partsOf (b : Bun) (Ff : Nat → Nat) (K : Nat) : List Bun := (spans b.off Ff K).map fun x => cutS b x.1 x.2
/-- a list of bundles comes back -/
def BunsPost (l : List Bun) (w : World) (e : Ending) (w' : World) : Prop := ∃ v, e = .returned v ∧ RBuns w' w'.heap.size v l ∧ Below w.heap.size w w'

/-- what the caller of parts asks of it -/
def PartsSeq (w : World) (off To : Int) (v : Value) (Ff : Nat → Nat) (K : Nat) : Prop :=
  ∀ (Bx Bs n₀ z : Nat) (W : World), Below w.heap.size w W → Bx < n₀ → Bs < n₀ → Bx ≠ z → Bs ≠ z → w.heap.size ≤ z → w.heap.size ≤ n₀ → n₀ ≤ W.heap.size →
    W.cell? ⟨Bx, 0, none⟩ = some (.int .i64 off) → W.cell? ⟨Bx, 1, none⟩ = some (.int .i64 To) → W.cell? ⟨Bs, 0, none⟩ = some v →
    SeqStopsK Fence.wide 11 Try.prog 55 #[.pointer (some ⟨Bx, 0, none⟩), .pointer (some ⟨Bs, 0, none⟩)] (fun x : Sp off To => #[Value.agg #[.int .i64 x.1.1, .int .i64 x.1.2]]) (KpX n₀ z) (fun ys => ys.map (·.1) = spans off Ff K) (fun _ => True) K W

theorem ownC {A B' : World} {row : Option Nat} {Pr : Nat → Prop} (hg : A.grownBy B' row) (hr : ∀ r, row = some r → Pr r ∧ ∃ o : Obj, A.heap[r]? = some o ∧ o.isCells = false) (q : Nat) (cs : Array Value) (e : TypeId) (f : Nat × Nat) (hq : A.heap[q]? = some (.cells cs e f)) : B'.heap[q]? = A.heap[q]? := by
  have hlt : q < A.heap.size := by
    rcases Nat.lt_or_ge q A.heap.size with h | h
    · exact h
    · rw [Array.getElem?_eq_none h] at hq; cases hq
  refine hg.block q hlt (fun e' => ?_)
  obtain ⟨_, o, ho, hc⟩ := hr q e'.symm
  rw [hq] at ho
  injection ho with ho
  subst ho
  cases hc
theorem keepsFrom_below {A B' : World} {C : Nat} (h : Below A.heap.size A B') : KeepsFrom C A B' := ⟨h.size, fun k o _ hk _ => by
  have hlt : k < A.heap.size := (Array.getElem?_eq_some_iff.1 hk).1
  rw [h.block k hlt]; exact hk⟩

set_option maxRecDepth 100000 in
set_option maxHeartbeats 2000000 in
theorem divide_any (b : Bun) (u v : Value) (N : Nat) (w : World) (hN : N ≤ w.heap.size) (h : RBlks w N u b.blocks) (To : Int) (Ff : Nat → Nat) (K : Nat)
    (hTo : To = b.off + b.payload.length) (h0 : 0 ≤ b.off) (h4 : b.off ≤ 100000) (h5 : b.payload.length ≤ 100000) (hK : K ≤ 100000)
    (hf : ∀ x ∈ b.blocks, 0 ≤ x.flags ∧ x.flags ≤ 15) (hl : b.blocks.length ≤ 1000) (hv : ∃ fn x y, v = .func fn x y) (hseq : PartsSeq w b.off To v Ff K) :
    Calls Try.prog 30 #[.agg (bunC b u).toArray, v] w (BunsPost (partsOf b Ff K) w) := by
  refine (callsIn_wide (n := 12)).1 ?_
  obtain ⟨ua, uc, rfl, _⟩ := id h
  have HR := Lib.hid h
  have HF := Lib.hid hf
  have HTo := Lib.hid hTo
  have HSQ := Lib.hid hseq
  obtain ⟨fn, fx, fy, rfl⟩ := hv
  obtain ⟨i0, hin, hz0, hz1, hz2⟩ := info_parts infoBun
  clear h hf hTo hseq
  refine callsIn_of_wp_marks Try.func30 rfl trivial ?_ rfl
  simp only [Try.ntmps30, List.size_toArray, List.length_cons, List.length_nil, Nat.reduceAdd, Nat.reduceSub, Array.replicate_succ, Array.replicate_zero, List.push_toArray, List.append_toArray, List.nil_append, List.cons_append, bunC]
  gi_wp2_with fail
  refine ⟨trivial, callsIn_wide.2 ((span_any b _ _ h0 h4 h5).mono ?_)⟩
  rintro e w1 ⟨rfl, hb1⟩
  obtain ⟨k1, f1⟩ := bcell hb1
  have z1 : w.heap.size + 1 < w1.heap.size := by have := hb1.size; simp at this; omega
  have hB1 : Below w.heap.size w w1 := (by repeat' (first | (with_reducible refine bset ?_ ?_) | (with_reducible exact Below.refl _ _) | (with_reducible assumption) | (with_reducible refine bdrewN ?_ _) | (with_reducible refine bdrew ?_) | (with_reducible refine balloc0 ?_) | (with_reducible refine balloc ?_ ?_) | (with_reducible apply btrans0; rotate_left; with_reducible assumption) | (with_reducible apply btrans; rotate_left; with_reducible assumption) | exact Below.refl _ _ | assumption | (apply btrans0; rotate_left; assumption) | (apply btrans; rotate_left; assumption) | (simp; done) | omega | (simp; omega)))
  have hout : Boxed w1 (w.heap.size + 1) 31 (.slice none 0 0) := (hb1.block _ (by simp)).trans (by repeat (first | exact heap_new' (by first | rfl | (simp; done)) | refine (Below.heap_alloc _ _ _ (by first | (simp; done) | (simp; omega))).trans ?_))
  have hbb : w1.heap[w.heap.size]? = some (.cells (bunC b (.slice ua b.blocks.length uc)).toArray 28 (0, 0)) := (hb1.block _ (by simp; omega)).trans (by repeat (first | exact heap_new' (by first | rfl | (simp; done)) | refine (Below.heap_alloc _ _ _ (by first | (simp; done) | (simp; omega))).trans ?_))
  have HBB := Lib.hid hbb
  clear hbb k1 f1
  rw [← HTo.out]
  gi_wp2_with fail
  refine ⟨trivial, (parts_in Fence.wide _ trivial rfl _ _ _ ⟨_, _, _, rfl⟩ _).mono ?_⟩
  rintro e w2 ⟨rfl, rfl⟩
  obtain ⟨W0, hW0⟩ : ∃ W0, (w1.alloc (.cells #[.int .i64 b.off, .int .i64 To] 46)).alloc (.cells #[.func fn fx fy] 55) = W0 := ⟨_, rfl⟩
  have hs0 : W0.heap.size = w1.heap.size + 2 := by rw [← hW0]; simp
  have hB0 : Below w.heap.size w W0 := by rw [← hW0]; exact (by repeat' (first | (with_reducible refine bset ?_ ?_) | (with_reducible exact Below.refl _ _) | (with_reducible assumption) | (with_reducible refine bdrewN ?_ _) | (with_reducible refine bdrew ?_) | (with_reducible refine balloc0 ?_) | (with_reducible refine balloc ?_ ?_) | (with_reducible apply btrans0; rotate_left; with_reducible assumption) | (with_reducible apply btrans; rotate_left; with_reducible assumption) | exact Below.refl _ _ | assumption | (apply btrans0; rotate_left; assumption) | (apply btrans; rotate_left; assumption) | (simp; done) | omega | (simp; omega)))
  have hout0 : Boxed W0 (w.heap.size + 1) 31 (.slice none 0 0) := by rw [← hW0]; exact (hout.alloc _).alloc _
  have hbb0 : W0.heap[w.heap.size]? = some (.cells (bunC b (.slice ua b.blocks.length uc)).toArray 28 (0, 0)) := by
    rw [← hW0]; exact ((Below.heap_alloc _ _ _ (by simp; omega)).trans (Below.heap_alloc _ _ _ (by omega))).trans HBB.out
  have hx0 : W0.heap[w1.heap.size]? = some (.cells #[.int .i64 b.off, .int .i64 To] 46 (0, 0)) := by rw [← hW0]; exact (by repeat (first | exact heap_new' (by first | rfl | (simp; done)) | refine (Below.heap_alloc _ _ _ (by first | (simp; done) | (simp; omega))).trans ?_))
  have hx1 : W0.heap[w1.heap.size + 1]? = some (.cells #[.func fn fx fy] 55 (0, 0)) := by rw [← hW0]; exact (by repeat (first | exact heap_new' (by first | rfl | (simp; done)) | refine (Below.heap_alloc _ _ _ (by first | (simp; done) | (simp; omega))).trans ?_))
  have cx0 : W0.cell? ⟨w1.heap.size, 0, none⟩ = some (.int .i64 b.off) := cellB hx0 0
  have cx1 : W0.cell? ⟨w1.heap.size, 1, none⟩ = some (.int .i64 To) := cellB hx0 1
  have cs0 : W0.cell? ⟨w1.heap.size + 1, 0, none⟩ = some (.func fn fx fy) := cellB hx1 0
  clear hx0 hx1
  have HW0 := Lib.hid hW0
  have HS0 := Lib.hid hs0
  have hsz : w1.heap.size + 1 < W0.heap.size := by omega
  rw [hW0]
  clear hW0 hs0
  gi_wp2
  refine wpIn_rangeFunc_ownH rfl (by omega) (gf := 55) (lb := #[.pointer (some ⟨w1.heap.size, 0, none⟩), .pointer (some ⟨w1.heap.size + 1, 0, none⟩)]) rfl trivial (enters_of Try.func55 (by kernel_rfl) rfl)
    (HSQ.out w1.heap.size (w1.heap.size + 1) W0.heap.size (w.heap.size + 1) W0 hB0 (by omega) (by omega) (by omega) (by omega) (by omega) hB0.size (Nat.le_refl _) cx0 cx1 cs0) (fun h k => h.trans k) (fun W l o o' hl _ _ _ => KpX.putObj W o' hl) (Below.refl _ _) (fun _ => rfl)
    (fun pre W => (∃ vo, Boxed W (w.heap.size + 1) 31 vo ∧ OutB W N W0.heap.size vo (pre.map fun x => cutS b x.1.1 x.1.2)) ∧ (W.heap[w.heap.size]? = some (.cells (bunC b (.slice ua b.blocks.length uc)).toArray 28 (0, 0)) ∧ Below w.heap.size w W ∧ W0.heap.size ≤ W.heap.size))
    (fun _ _ _ => False) ?hI (fun _ _ _ _ _ hs _ _ => hs) ?h0
    (fun x a' W => ∃ Bx, W0.heap.size ≤ Bx ∧ Bx < W.heap.size ∧ W.heap[Bx]? = some (.cells #[.int .i64 x.1.1, .int .i64 x.1.2] 46 (0, 0)) ∧ a' = { tmps := #[.agg (bunC b (.slice ua b.blocks.length uc)).toArray, .func fn fx fy, .pointer (some ⟨w.heap.size, 0, none⟩), undef, .slice none 0 0, .pointer (some ⟨w.heap.size + 1, 0, none⟩), .pointer (some ⟨Bx, 0, none⟩), .agg (bunC b (.slice ua b.blocks.length uc)).toArray, .agg #[.int .i64 b.off, .int .i64 To], .func fn fx fy, .func (.func 55) #[] #[.pointer (some ⟨w1.heap.size, 0, none⟩), .pointer (some ⟨w1.heap.size + 1, 0, none⟩)], .agg #[.int .i64 x.1.1, .int .i64 x.1.2], undef, undef, undef, undef, undef, undef, undef, undef, undef, undef], defers := [] }) ?hA ?assign ?body ?done ?stop
  case hI =>
    refine OwnFrom.and (fun s A C row hs hg hr => ?_) (OwnFrom.and (fun s A C row hs hg hr => (ownC hg hr _ _ _ _ hs).trans hs) (OwnFrom.and (ownFrom_below (Nat.le_refl _) hB0.size) (fun s A C row hs hg hr => Nat.le_trans hs hg.size)))
    obtain ⟨vo, h1, h2⟩ := hs
    exact ⟨vo, (ownC hg hr _ _ _ _ h1).trans h1, h2.kept (fun q _ _ cs e f hq => ownC hg hr q cs e f hq) hg.size⟩
  case h0 => exact ⟨⟨_, hout0, OutB.nil _ _ _⟩, hbb0, hB0, Nat.le_refl _⟩
  case hA =>
    intro x a' s A C row hs hg hr
    obtain ⟨Bx, e1, e2, e3, e4⟩ := hs
    exact ⟨Bx, e1, Nat.lt_of_lt_of_le e2 hg.size, (ownC hg hr _ _ _ _ e3).trans e3, e4⟩
  case assign =>
    rintro l pre x W K' ⟨⟨vo, h1, h2⟩, h3, hB, hW0⟩ hK'
    gi_wp2
    refine hK' _ _ ((KeepsOthers.alloc _ _).from _) ?_ ⟨⟨vo, h1.alloc _, h2.below (Below.refl _ _ |>.alloc (Nat.le_refl _) _)⟩, (Below.heap_alloc _ _ _ (by have := h1.lt; omega)).trans h3, hB.alloc hB.size _, by simp; omega⟩ ⟨W.heap.size, hW0, by simp, heap_new, rfl⟩
    exact ⟨by simp, fun k hk _ => Below.heap_alloc _ _ _ (by omega)⟩
  case body =>
    rintro l pre x a' W hll ⟨r, hr⟩ ⟨⟨vo, h1, h2⟩, h3, hB, hW0⟩ ⟨Bx, e1, e2, e3, rfl⟩ hlt
    have c1 := h1.cell
    have c2 : ∀ o, W.cell? ⟨w.heap.size, o, none⟩ = (bunC b (.slice ua b.blocks.length uc)).toArray[o]? := fun o => cellB h3 o
    simp only [bunC] at c2
    have c3 : W.cell? ⟨Bx, 0, none⟩ = some (.int .i64 x.1.1) := cellB e3 0
    have c4 : W.cell? ⟨Bx, 1, none⟩ = some (.int .i64 x.1.2) := cellB e3 1
    have hS : ∀ V : World, (∀ q o, q < W.heap.size → V.cell? ⟨q, o, none⟩ = W.cell? ⟨q, o, none⟩) → V.cell? ⟨w.heap.size + 1, 0, none⟩ = some vo ∧ (∀ o, V.cell? ⟨w.heap.size, o, none⟩ = #[.int .i64 b.src, .int .i64 b.crt, .int .i64 b.seq, .int .i64 b.off, .int .i64 b.tot, .int .i64 b.dk, .int .i64 b.dn, .int .i64 b.life, .int .i64 b.prio, .int .i64 b.flags, .slice ua b.blocks.length uc, .string (B b.payload)][o]?) ∧ V.cell? ⟨Bx, 0, none⟩ = some (.int .i64 x.1.1) ∧ V.cell? ⟨Bx, 1, none⟩ = some (.int .i64 x.1.2) := fun V hV =>
      ⟨(hV _ _ h1.lt).trans c1, fun o => (hV _ _ (by have := h1.lt; omega)).trans (c2 o), (hV _ _ e2).trans c3, (hV _ _ e2).trans c4⟩
    have HSS := Lib.hid hS
    clear hS
    gi_wp2
    refine wpIn_region_plan (fun W' => W'.cell? ⟨w.heap.size + 1, 0, none⟩ = some vo ∧ (∀ o, W'.cell? ⟨w.heap.size, o, none⟩ = #[.int .i64 b.src, .int .i64 b.crt, .int .i64 b.seq, .int .i64 b.off, .int .i64 b.tot, .int .i64 b.dk, .int .i64 b.dn, .int .i64 b.life, .int .i64 b.prio, .int .i64 b.flags, .slice ua b.blocks.length uc, .string (B b.payload)][o]?) ∧ W'.cell? ⟨Bx, 0, none⟩ = some (.int .i64 x.1.1) ∧ W'.cell? ⟨Bx, 1, none⟩ = some (.int .i64 x.1.2)) [1, 1, 0, 1, 0, 1, 2, 2, 3, 3] [0, 1, 2, 3, 4, 5, 6, 7, 8, 9] (by kernel_rfl) (by kernel_rfl) ?_ ?_
    · go_simp
    (iterate 6 (refine plan_heldI rfl (by decide) (by rfl) (fun w1 => by rfl) (fun w1 hS => by (try (have hS := hS rfl; obtain hS := hS; repeat (obtain ⟨_, hS⟩ := hS))); go_simp; rfl) ?_; simp only [Act.put, List.setIfInBounds_toArray, List.set_cons_zero, List.set_cons_succ]))
    (refine plan_keepI rfl rfl (by rfl) (fun K hK => ?_); go_simp)
    have l1 := h1.lt
    have l0 : w.heap.size < W.heap.size := by omega
    have hx1 := x.2.1
    have hx2 := x.2.2.1
    have hx3 := x.2.2.2
    refine ⟨trivial, CallsIn.inRound l (callsIn_wide.2 ((cut_any b _ x.1.1 x.1.2 N W.drew (by show N ≤ W.heap.size; omega) (HR.out.below (C := w.heap.size) (bdrew hB) hN (Nat.le_refl N)) h0 hx1 hx2 (by rw [← HTo.out]; exact hx3) h4 h5 HF.out hl).mono ?_))⟩
    rintro e w2 ⟨u2, rfl, hr2, hb2⟩
    obtain ⟨a2, c2', rfl, _⟩ := id hr2
    obtain ⟨c, hc⟩ : ∃ c, cutS b x.1.1 x.1.2 = c := ⟨_, rfl⟩
    rw [hc] at hr2 ⊢
    have HC := Lib.hid hc
    have HR2 := Lib.hid hr2
    clear hc hr2
    obtain ⟨k2, f2⟩ := bcell hb2
    have z2 : W.heap.size ≤ w2.heap.size := hb2.size
    have l1' : w.heap.size + 1 < w2.heap.size := by omega
    have l0' : w.heap.size < w2.heap.size := by omega
    have e2' : Bx < w2.heap.size := by omega
    simp only [bunC]
    have w2c : ∀ q o, q < W.heap.size → w2.cell? ⟨q, o, none⟩ = W.cell? ⟨q, o, none⟩ := fun q o hq => hb2.cell (p := ⟨q, o, none⟩) hq
    (refine hK _ _ (by exact HSS.out _ w2c) ?_; clear hK K; (try simp only [Act.put, List.setIfInBounds_toArray, List.set_cons_zero, List.set_cons_succ]))
    (refine plan_keepI rfl rfl (by rfl) (fun K hK => ?_); go_simp)
    (refine hK _ _ (by exact HSS.out _ fun q o hq => (World.cell?_alloc_lt _ _ _ (by show q < w2.heap.size; omega)).trans (w2c q o hq)) ?_; clear hK K; (try simp only [Act.put, List.setIfInBounds_toArray, List.set_cons_zero, List.set_cons_succ]))
    have hb2' : Below W.heap.size W w2 := ⟨hb2.os, hb2.tape, hb2.output, hb2.size, hb2.block⟩
    obtain ⟨rs, hrs1, hrs2, hrs3⟩ := h2.below hb2'
    have hlen : (pre.map fun x => cutS b x.1.1 x.1.2).length = pre.length := by simp
    have hlen2 : pre.length < 100001 := by omega
    refine plan_lateI rfl rfl (by rfl) (fun K' hK' => ?_)
    refine wpIn_append_lies _ _ _ rfl (by rfl) W0.heap.size 28 i0 _ 12 120 Try.underlying31 hin hz0 hz1 hz2 rfl (by omega) vo (pre.map fun x => cutS b x.1.1 x.1.2).length _ (by rfl) (hrs2.alloc _) ⟨w2.heap.size, 0, none⟩ 1 1 (bunC c (.slice a2 c.blocks.length c2')) (by rfl) rfl (news_one (t := 28) (by exact heap_new)) (bunC_one rfl) (by omega) (by rw [hlen]; simp only [maxLen]; omega) (by rw [hlen]; omega) (by simp; omega) (w2.heap.size + 1) (by simp) ?_
    intro g cap w3 hown3 hg3 hat3 hlt3
    have hvo : ∀ q, vo.ownBlock = some q → W0.heap.size ≤ q ∧ q < W.heap.size := h2.lt
    have keep3 : ∀ q, q < W0.heap.size → w3.heap[q]? = W.heap[q]? := fun q hq =>
      ((hg3.block q (by simp; omega) (fun e => by have := (hvo q e.symm).1; omega)).trans (Below.heap_alloc _ _ _ (by omega))).trans (hb2'.block q (by omega))
    have d1 : w3.heap[w.heap.size + 1]? = some (.cells #[vo] 31 (0, 0)) := (keep3 _ (by omega)).trans h1
    have d0 := (keep3 w.heap.size (by omega)).trans h3
    have hB3 : Below w.heap.size W w3 := (balloc (hb2'.mono (by omega)) (by omega)).grown hg3 (by simp; omega) (fun q hq => by have := hvo q hq; omega)
    have hst := OutB.step (W0 := W.drew) (N := N) (cap := cap) (W := w2.alloc (.cells (bunC c (.slice a2 c.blocks.length c2')).toArray 28)) hrs1 (hrs2.alloc _) (fun r hr => (hrs3 r hr).keep (fun q o hq => World.cell?_alloc_lt _ _ _ hq.1) (fun q hq => ⟨by have := hq.1; simp; omega, hq.2⟩))
      (fun q hq => (hvo q hq).2) (HR2.out.keep (fun q o hq => World.cell?_alloc_lt _ _ _ (by show q < w2.heap.size; rcases hq with hq | hq <;> omega)) (fun q hq => by rcases hq with hq | hq; exact .inl hq; exact .inr ⟨hq.1, by simp; omega⟩)) (by omega) (by simp; omega) (by show W0.heap.size ≤ W.heap.size; omega) hown3 hg3 (by rcases hat3 with h | h; exact .inl h; exact .inr (by simpa using h))
    have HST := Lib.hid hst
    have D0 := Lib.hid d0
    have e1c := cellB d1 0
    have e1f := frozenB d1 0
    have HD1 : Hid (Boxed w3 (w.heap.size + 1) 31 vo) := Lib.hid d1
    have hz3 : W.heap.size ≤ w3.heap.size := Nat.le_trans hb2'.size (Nat.le_trans (by simp) hg3.size)
    clear hst d0 d1 keep3 hown3 hat3 w2c k2 f2
    refine hK' _ _ ?_
    clear hK' K'
    simp only [Act.put, List.setIfInBounds_toArray, List.set_cons_zero, List.set_cons_succ]
    (refine plan_lateI rfl rfl (by rfl) (fun K hK => ?_); go_simp)
    (refine hK _ _ ?_; clear hK K; (try simp only [Act.put, List.setIfInBounds_toArray, List.set_cons_zero, List.set_cons_succ]))
    refine plan_doneI ?_
    gi_wp2
    have hz3' : W0.heap.size ≤ w3.heap.size := by omega
    refine ⟨⟨by simp; omega, fun k o hk ho hc => ?_⟩, ⟨by simp; omega, fun k hk hne => ?_⟩, ⟨_, HD1.out.set _, ?_⟩, ?_, ?_, by simp; omega⟩
    · have hkl : k < W.heap.size := (Array.getElem?_eq_some_iff.1 ho).1
      rw [Below.heap_setCell _ _ _ _ (by show k ≠ w.heap.size + 1; omega), hg3.block k (by simp; omega) (fun e => ?_), Below.heap_alloc _ _ _ (by omega), hb2'.block k hkl, ho]
      obtain ⟨cs, hcs⟩ := h2.cells k e.symm
      rw [ho] at hcs
      injection hcs with hcs
      subst hcs
      cases hc
    · have hkl : k < W.heap.size := by omega
      rw [Below.heap_setCell _ _ _ _ (by show k ≠ w.heap.size + 1; omega), hg3.block k (by simp; omega) (fun e => ?_), Below.heap_alloc _ _ _ (by omega), hb2'.block k hkl]
      have := (hvo k e.symm).1
      omega
    · have h := HST.out.kept (W' := w3.setCell ⟨w.heap.size + 1, 0, none⟩ (.slice (some ⟨g, 0, none⟩) ((pre.map fun x => cutS b x.1.1 x.1.2).length + 1) cap)) (fun q _ hq _ _ _ _ => Below.heap_setCell _ _ _ _ (by show q ≠ w.heap.size + 1; omega)) (by simp)
      rw [hlen] at h
      rw [List.map_append, List.map_cons, List.map_nil, HC.out]
      exact h
    · rw [Below.heap_setCell _ _ _ _ (by show w.heap.size ≠ w.heap.size + 1; omega)]; exact D0.out
    · exact bset (hB.trans hB3) (by show w.heap.size ≤ w.heap.size + 1; omega)
  case done =>
    rintro D ys W hD hys ⟨⟨vo, h1, h2⟩, h3, hB, hW0⟩ hK'
    have c1 := h1.cell
    gi_wp2
    refine ⟨by simp, .inl ⟨_, _, rfl, run_takeDeferred hK', ?_⟩⟩
    refine ⟨_, results_tmp rfl _ _ _, vo, rfl, ?_, hB.grown (grownBy_putObj' W D _) hB.size (fun q hq => by injection hq with hq; omega)⟩
    have h := (h2.kept (W' := W.putObj D (.deferred none)) (fun q hq _ cs e f hc => (grownBy_putObj' W D _).block q hq (fun e' => by
      injection e' with e'
      subst e'
      rw [hK'] at hc
      cases hc)) (grownBy_putObj' W D _).size).rbuns
    have e1 : (ys.map fun x => cutS b x.1.1 x.1.2) = partsOf b Ff K := by
      unfold partsOf
      rw [← hys, List.map_map]; rfl
    rw [e1] at h
    exact h
  case stop =>
    rintro D c pre W _ _ h _
    exact h.elim
end Go.Proofs.Ytibfchdhppdccaa
