/- Joined by port.py: XGa XGo XGm XL -/
import Derived.WideShapes
import Derived.ChangeSame
import Derived.Deep.Slices
import Derived.Deep.Fields
import Derived.Lib.SmallJoins
import Derived.ChangeMaps5
import Derived.WalkKit
import Derived.ProofKit
import Derived.OpenShut
import Derived.Carry
import Derived.Test.YtmknchdciblfjaaGreatJa
import Derived.Test.YtmknchdciblfjaaGreatJb
import Derived.Test.YtmknchdciblfjaaGreatJc
import Derived.Test.YtmknchdciblfjaaGreatJd
import Derived.Test.YtmknchdciblfjaaGreatJe
import Derived.Test.YtmknchdciblfjaaGreatJh
set_option linter.unusedVariables false
set_option linter.unusedSimpArgs false
/-! XGa -/
namespace Go.Proofs.YtmknchdciblfjaaGreat
open Go Go.RowKit
attribute [local go_sem] B_getElem B_size B_app B_extract B_get B_toList
theorem eqId (a b c d e : Int) (w : World) : Sem.run Tryz.prog (Go.binOp .eql 27 (.agg #[.int .i64 a, .int .i64 b, .int .i64 c, .int .i64 d, .int .i64 e]) (.agg #[.int .i64 a, .int .i64 b, .int .i64 c, .int .i64 d, .int .i64 e])) w = .ok (.bool true) w := by
  go_simp
theorem eqEnd (a b : Int) (w : World) : Sem.run Tryz.prog (Go.binOp .eql 29 (.agg #[.int .i64 a, .int .i64 b]) (.agg #[.int .i64 a, .int .i64 b])) w = .ok (.bool true) w := by
  go_simp
attribute [local go_sem ↓] eqBlk eqId eqEnd
set_option maxRecDepth 100000 in
set_option maxHeartbeats 1000000 in
theorem sameBlocks_any (l : List Blk) (u v : Value) (w : World) (h : RBlks w w.heap.size u l) (k : RBlks w w.heap.size v l) :
    Calls Tryz.prog 91 #[u, v] w (Says w) := by
  obtain ⟨a, c, rfl, h1, h2, h3, h4⟩ := h
  obtain ⟨a', c', rfl, k1, k2, k3, k4⟩ := k
  unfold maxLen at h2
  have hlen : l.length ≤ 9223372036854775807 := by omega
  have H4 := Lib.hid h4
  have K4 := Lib.hid k4
  clear h3 h4 k3 k4
  go_enter Tryz.func91, Tryz.ntmps91
  go_wp2
  go_loopw [5] (fun i wr => ∃ k : Nat, k ≤ l.length ∧ i = .int .i64 k ∧ Below w.heap.size w wr) (fun i _ => l.length - (intOf i).toNat)
  case atStart => exact ⟨0, Nat.zero_le _, rfl, Below.refl _ _⟩
  case round =>
    obtain ⟨k, hk, rfl, hB⟩ := hrel
    by_cases hlt : k < l.length
    · obtain ⟨b, o, rfl, hbn, hcell⟩ := H4.out (by omega)
      obtain ⟨b', o', rfl, hbn', hcell'⟩ := K4.out (by omega)
      obtain ⟨x, hx⟩ : ∃ x, l[k]? = some x := ⟨_, List.getElem?_eq_getElem hlt⟩
      obtain ⟨c1, c2, c3⟩ := (hcell k x hx).keep (fun o => hB.cell (p := ⟨b, o, none⟩) hbn)
      obtain ⟨d1, d2, d3⟩ := (hcell' k x hx).keep (fun o => hB.cell (p := ⟨b', o, none⟩) hbn')
      have k0 : (0 : Int) ≤ (k : Int) := by omega
      have k1' : (k : Int) < (l.length : Int) := by omega
      clear hcell hcell' hx
      go_wp2
      go_quiet (fail)
      go_wp2
      go_roundw
      case rel => exact ⟨k + 1, by omega, by go_num, belowA⟩
      case measure => simp [intOf]; omega
    · obtain rfl : k = l.length := by omega
      go_wp2
      go_ret
      exact ⟨rfl, hB⟩
set_option maxRecDepth 100000 in
set_option maxHeartbeats 1000000 in
theorem bsame_any (b : Bun) (u v : Value) (w : World) (h : RBlks w w.heap.size u b.blocks) (k : RBlks w w.heap.size v b.blocks) :
    Calls Tryz.prog 35 #[.agg (bunC b u).toArray, .agg (bunC b v).toArray] w (Says w) := by
  have HR := Lib.hid h
  have KR := Lib.hid k
  clear h k
  go_enter Tryz.func35, Tryz.ntmps35
  simp only [bunC]
  go_wp2_with fail
  refine (sameBlocks_any b.blocks _ _ _ (HR.out.below (C := w.heap.size) (((Below.refl _ _).alloc (Nat.le_refl _) _).alloc (by simp) _) (Nat.le_refl _) (by simp; omega)) (KR.out.below (C := w.heap.size) (((Below.refl _ _).alloc (Nat.le_refl _) _).alloc (by simp) _) (Nat.le_refl _) (by simp; omega))).mono ?_
  rintro e w1 ⟨rfl, hb1⟩
  obtain ⟨k1, f1⟩ := bcell hb1
  have z1 : w.heap.size + 1 < w1.heap.size := by have := hb1.size; simp at this; omega
  go_wp2
  go_ret
  exact ⟨by simp, belowA⟩
set_option maxRecDepth 100000 in
set_option maxHeartbeats 1000000 in
theorem bgreat_any (b : Bun) (u : Value) (w : World) (h : RBlks w w.heap.size u b.blocks) (hf : Fits b) :
    Calls Tryz.prog 12 #[.agg (bunC b u).toArray] w (AnyBool w) := by
  obtain ⟨a, c, rfl, h1, h2, h3, h4⟩ := h
  have hp := hf.1
  have HFd := Lib.hid hf.2
  unfold maxLen at h2 hp
  have hlen : b.blocks.length ≤ 9223372036854775807 := by omega
  have H4 := Lib.hid h4
  clear h3 h4 hf
  go_enter Tryz.func12, Tryz.ntmps12
  simp only [bunC]
  go_wp2
  all_goals first
    | (go_ret; exact ⟨true, rfl, belowA⟩)
    | skip
  all_goals
    go_loop [3] (fun i => ∃ k : Nat, k ≤ b.blocks.length ∧ i = .int .i64 k) (fun i => b.blocks.length - (intOf i).toNat)
    case atStart => exact ⟨0, Nat.zero_le _, rfl⟩
    case round =>
      obtain ⟨k, hk, rfl⟩ := hrel
      by_cases hlt : k < b.blocks.length
      · obtain ⟨bb, o, rfl, hbn, hcell⟩ := H4.out (by omega)
        obtain ⟨x, hx⟩ : ∃ x, b.blocks[k]? = some x := ⟨_, List.getElem?_eq_getElem hlt⟩
        obtain ⟨c1, c2, c3⟩ := hcell k x hx
        have hxd := HFd.out x (List.mem_of_getElem? hx)
        unfold maxLen at hxd
        have k1' : (k : Int) < (b.blocks.length : Int) := by omega
        clear hcell hx c1 c2
        go_wp2
        all_goals first
          | (go_ret; exact ⟨true, rfl, belowA⟩)
          | (go_round
             case rel => exact ⟨k + 1, by omega, by go_num⟩
             case measure => simp [intOf]; omega)
      · obtain rfl : k = b.blocks.length := by omega
        go_wp2
        go_ret
        exact ⟨false, rfl, belowA⟩
end Go.Proofs.YtmknchdciblfjaaGreat
/-! XGo -/
namespace Go.Proofs.YtmknchdciblfjaaGreat
open Go Go.RowKit Go.ChangeShapes Go.WideShapes Go.Deep Go.Joins
theorem list3 {α : Type} {xs : List α} (h : xs.length = 3) : ∃ x0 x1 x2, xs = [x0, x1, x2] := by
  match xs, h with
  | [x0, x1, x2], _ => exact ⟨x0, x1, x2, rfl⟩
theorem list5 {α : Type} {xs : List α} (h : xs.length = 5) : ∃ x0 x1 x2 x3 x4, xs = [x0, x1, x2, x3, x4] := by
  match xs, h with
  | [x0, x1, x2, x3, x4], _ => exact ⟨x0, x1, x2, x3, x4, rfl⟩
theorem list2 {α : Type} {xs : List α} (h : xs.length = 2) : ∃ x0 x1, xs = [x0, x1] := by
  match xs, h with
  | [x0, x1], _ => exact ⟨x0, x1, rfl⟩
theorem list7 {α : Type} {xs : List α} (h : xs.length = 7) : ∃ x0 x1 x2 x3 x4 x5 x6, xs = [x0, x1, x2, x3, x4, x5, x6] := by
  match xs, h with
  | [x0, x1, x2, x3, x4, x5, x6], _ => exact ⟨x0, x1, x2, x3, x4, x5, x6, rfl⟩
theorem list12 {α : Type} {xs : List α} (h : xs.length = 12) : ∃ x0 x1 x2 x3 x4 x5 x6 x7 x8 x9 xa xb, xs = [x0, x1, x2, x3, x4, x5, x6, x7, x8, x9, xa, xb] := by
  match xs, h with
  | [x0, x1, x2, x3, x4, x5, x6, x7, x8, x9, xa, xb], _ => exact ⟨x0, x1, x2, x3, x4, x5, x6, x7, x8, x9, xa, xb, rfl⟩
section
variable {H : Type} {enc : TypeId × Value → H} {w : World} {base : Nat} {spare : Nat → Bool} {held : Bool}
theorem fld {fs : Array Field} {n i T o k : Nat} {cs : List Value} {xs : List (DataW H × List MemPlace)} (hf : ∀ (i : Nat) (f : Field), fs[i]? = some f → DataW.trod enc Tryz.prog w base spare held n f.type ((cs.drop f.offset).take (Tryz.prog.cellsOf f.type)) = xs[i]?)
    (hj : (fs[i]?.map fun f => (f.type, f.offset)) = some (T, o)) (hk : Tryz.prog.cellsOf T = k) : DataW.trod enc Tryz.prog w base spare held n T ((cs.drop o).take k) = xs[i]? := by
  obtain ⟨f, h1, h2⟩ := Option.map_eq_some_iff.1 hj
  simp only [Prod.mk.injEq] at h2
  obtain ⟨rfl, rfl⟩ := h2
  rw [← hk]
  exact hf i f h1
theorem open_id {n : Nat} {cs : List Value} {x : DataW H × List MemPlace} (h : DataW.trod enc Tryz.prog w base spare held n 27 cs = some x) : ∃ a b c d e : Int, cs = [.int .i64 a, .int .i64 b, .int .i64 c, .int .i64 d, .int .i64 e] := by
  obtain ⟨xs, m, rfl, _, hl, hxl, hf⟩ := DataW.trod_struct Tryz.underlying27 h
  obtain ⟨c0, c1, c2, c3, c4, rfl⟩ := list5 (hl.trans (by kernel_rfl))
  obtain ⟨x0, x1, x2, x3, x4, rfl⟩ := list5 hxl
  have k : Tryz.prog.cellsOf 3 = 1 := by kernel_rfl
  obtain ⟨a0, e0, _⟩ := DataW.trod_int Tryz.underlying3 (fld (i := 0) hf rfl k)
  obtain ⟨a1, e1, _⟩ := DataW.trod_int Tryz.underlying3 (fld (i := 1) hf rfl k)
  obtain ⟨a2, e2, _⟩ := DataW.trod_int Tryz.underlying3 (fld (i := 2) hf rfl k)
  obtain ⟨a3, e3, _⟩ := DataW.trod_int Tryz.underlying3 (fld (i := 3) hf rfl k)
  obtain ⟨a4, e4, _⟩ := DataW.trod_int Tryz.underlying3 (fld (i := 4) hf rfl k)
  simp at e0 e1 e2 e3 e4
  subst e0 e1 e2 e3 e4
  exact ⟨_, _, _, _, _, rfl⟩
theorem open_end {n : Nat} {cs : List Value} {x : DataW H × List MemPlace} (h : DataW.trod enc Tryz.prog w base spare held n 29 cs = some x) : ∃ a b : Int, cs = [.int .i64 a, .int .i64 b] := by
  obtain ⟨xs, m, rfl, _, hl, hxl, hf⟩ := DataW.trod_struct Tryz.underlying29 h
  obtain ⟨c0, c1, rfl⟩ := list2 (hl.trans (by kernel_rfl))
  obtain ⟨x0, x1, rfl⟩ := list2 hxl
  have k : Tryz.prog.cellsOf 3 = 1 := by kernel_rfl
  obtain ⟨a0, e0, _⟩ := DataW.trod_int (k := .i64) (by kernel_rfl) (fld (k := 1) (i := 0) hf rfl (by kernel_rfl))
  obtain ⟨a1, e1, _⟩ := DataW.trod_int Tryz.underlying3 (fld (i := 1) hf rfl k)
  simp at e0 e1
  subst e0 e1
  exact ⟨_, _, rfl⟩
theorem open_blk {n : Nat} {cs : List Value} {x : DataW H × List MemPlace} (h : DataW.trod enc Tryz.prog w base spare held n 91 cs = some x) : ∃ b : Blk, cs = blkC b ∧ b.data.length ≤ maxLen := by
  obtain ⟨xs, m, rfl, _, hl, hxl, hf⟩ := DataW.trod_struct Tryz.underlying91 h
  obtain ⟨c0, c1, c2, rfl⟩ := list3 (hl.trans (by kernel_rfl))
  obtain ⟨x0, x1, x2, rfl⟩ := list3 hxl
  obtain ⟨a0, e0, _⟩ := DataW.trod_int (k := .i64) (by kernel_rfl) (fld (k := 1) (i := 0) hf rfl (by kernel_rfl))
  obtain ⟨a1, e1, _⟩ := DataW.trod_int (k := .i64) (by kernel_rfl) (fld (k := 1) (i := 1) hf rfl (by kernel_rfl))
  obtain ⟨s, e2, _, hs⟩ := DataW.trod_string (by kernel_rfl) (fld (k := 1) (i := 2) hf rfl (by kernel_rfl))
  simp at e0 e1 e2
  subst e0 e1 e2
  refine ⟨⟨a0, a1, s.data.toList⟩, rfl, ?_⟩
  simpa using hs
theorem choose_lt' {α : Type} {p : Nat → α → Prop} : ∀ {n : Nat}, (∀ i, i < n → ∃ v, p i v) → ∃ l : List α, l.length = n ∧ ∀ i x, l[i]? = some x → p i x
  | 0, _ => ⟨[], rfl, fun i x h => by simp at h⟩
  | n + 1, h => by
    obtain ⟨l, hl, hp⟩ := choose_lt' (n := n) fun i hi => h i (by omega)
    obtain ⟨v, hv⟩ := h n (by omega)
    refine ⟨l ++ [v], by simp [hl], fun i x hx => ?_⟩
    by_cases hi : i < n
    · rw [List.getElem?_append_left (by omega)] at hx; exact hp i x hx
    · rw [List.getElem?_append_right (by omega)] at hx
      have : i - l.length = 0 := by
        have := (List.getElem?_eq_some_iff.1 hx).1
        simp at this; omega
      rw [this] at hx
      simp at hx
      subst hx
      have : i = n := by omega
      rw [this]; exact hv
theorem open_blks {n : Nat} {cs : List Value} {x : DataW H × List MemPlace} (h : DataW.trod enc Tryz.prog w base spare held n 30 cs = some x) : ∃ (u : Value) (l : List Blk), cs = [u] ∧ RBlks w w.heap.size u l ∧ ∀ b ∈ l, b.data.length ≤ maxLen := by
  rcases open_slice Tryz.underlying30 h with ⟨rfl, _⟩ | ⟨a, len, cap, m, n', D, Pl, rfl, hb, hl, hm, hmm, _, hi⟩
  · exact ⟨_, [], rfl, RBlks.nil _ _, fun b hb => by simp at hb⟩
  · have hc : Tryz.prog.cellsOf 91 = 3 := by kernel_rfl
    rw [hc] at hi
    obtain ⟨l, hll, hlp⟩ := choose_lt' (α := Blk) (n := len) (p := fun i b => (∀ k u, (blkC b)[k]? = some u → w.cell? (a.add (i * 3 + k)) = some u) ∧ b.data.length ≤ maxLen) fun i hil => by
      obtain ⟨cs', h1, h2⟩ := hi i (by rw [hmm]; split <;> omega)
      obtain ⟨b, rfl, hd⟩ := open_blk h2
      obtain ⟨_, _, h3⟩ := World.cells?_some h1
      refine ⟨b, fun k u hk => ?_, hd⟩
      rw [← Go.Deep.add_add, h3 k (by have := (List.getElem?_eq_some_iff.1 hk).1; rw [blkC_len] at this; exact this), hk]
    refine ⟨_, l, rfl, ⟨some a, cap, by rw [hll], by omega, hm, (fun h => by cases h), fun hp => ?_⟩, fun b hb => ?_⟩
    · obtain ⟨x, hx⟩ : ∃ x, l[0]? = some x := ⟨_, List.getElem?_eq_getElem hp⟩
      have h0 := (hlp 0 x hx).1 0 _ rfl
      obtain ⟨ab, ao, asp⟩ := a
      have hs : asp = none ∧ ab < w.heap.size := by
        unfold World.cell? at h0
        simp only [Nat.zero_mul, Addr.add, Nat.add_zero] at h0
        have hz : ab < w.heap.size := by
          apply Classical.byContradiction
          intro hn
          have : w.heap[ab]? = none := by simp; omega
          simp [this] at h0
        refine ⟨?_, hz⟩
        cases asp with
        | none => rfl
        | some s =>
          exfalso
          revert h0
          simp
          split <;> simp
      obtain ⟨rfl, hz⟩ := hs
      refine ⟨ab, ao, rfl, hz, fun i x hx => CBlk_iff.2 fun k u hk => ?_⟩
      have := (hlp i x hx).1 k u hk
      rw [addN] at this
      rw [Nat.add_assoc]
      exact this
    · obtain ⟨i, hi'⟩ := List.getElem?_of_mem hb
      exact (hlp i b hi').2
set_option maxRecDepth 100000 in
theorem open_bun {r : Reach} {b0 : Nat} {v : Value} {d : DataW H} {p : List MemPlace} (hv : Value.okWide Tryz.prog w r b0 32 v) (h : DataW.Trod enc Tryz.prog w base spare held 32 v d p) :
    ∃ (b : Bun) (u : Value), v = .agg (bunC b u).toArray ∧ RBlks w w.heap.size u b.blocks ∧ Fits b := by
  obtain ⟨cs, rfl, hsz⟩ := okWide_struct Tryz.underlying32 hv
  obtain ⟨fuel, hf⟩ := h
  obtain ⟨xs, m, rfl, _, hl, hxl, hf⟩ := DataW.trod_struct Tryz.underlying32 hf
  obtain ⟨cl⟩ := cs
  simp only [Value.cells] at hf hl
  obtain ⟨c0, c1, c2, c3, c4, c5, c6, c7, c8, c9, ca, cb, rfl⟩ := list12 (hl.trans (by kernel_rfl))
  obtain ⟨x0, x1, x2, x3, x4, x5, x6, rfl⟩ := list7 hxl
  have k : Tryz.prog.cellsOf 3 = 1 := by kernel_rfl
  obtain ⟨a0, a1, a2, a3, a4, e0⟩ := open_id (fld (k := 5) (i := 0) hf rfl (by kernel_rfl))
  obtain ⟨a5, a6, e1⟩ := open_end (fld (k := 2) (i := 1) hf rfl (by kernel_rfl))
  obtain ⟨a7, e2, _⟩ := DataW.trod_int (k := .i64) (by kernel_rfl) (fld (k := 1) (i := 2) hf rfl (by kernel_rfl))
  obtain ⟨a8, e3, _⟩ := DataW.trod_int (k := .i64) (by kernel_rfl) (fld (k := 1) (i := 3) hf rfl (by kernel_rfl))
  obtain ⟨a9, e4, _⟩ := DataW.trod_int (k := .i64) (by kernel_rfl) (fld (k := 1) (i := 4) hf rfl (by kernel_rfl))
  obtain ⟨u, l, e5, hr, hd⟩ := open_blks (fld (k := 1) (i := 5) hf rfl (by kernel_rfl))
  obtain ⟨s, e6, _, hs⟩ := DataW.trod_string (by kernel_rfl) (fld (k := 1) (i := 6) hf rfl (by kernel_rfl))
  simp at e0 e1 e2 e3 e4 e5 e6
  obtain ⟨rfl, rfl, rfl, rfl, rfl⟩ := e0
  obtain ⟨rfl, rfl⟩ := e1
  subst e2 e3 e4 e5 e6
  exact ⟨⟨a0, a1, a2, a3, a4, a5, a6, a7, a8, a9, l, s.data.toList⟩, _, rfl, hr, by simpa using hs, hd⟩
end
end Go.Proofs.YtmknchdciblfjaaGreat
/-! XL -/
namespace Go.Proofs.YtmknchdciblfjaaGreat
open Go.ChangeShapes Go.WideShapes Go.ChangeAt Go.RowKit
theorem trodAll_stays {H : Type} {enc : TypeId × Value → H} {P : Program} (hl : laidOutB P = true) {W W' : World} {sp : Nat → Bool} :
    ∀ {ts : List TypeId} {vs : List Value} {ds : List (DataW H)} {ps : List MemPlace}, (ts.all fun t => P.readableRec t && decide (t < P.types.size)) = true →
      DataW.TrodAll enc P W 0 (fun _ => true) true ts vs ds ps → (∀ p ∈ ps, W.sameAt W' p) → (∀ p ∈ ps, sp p.block = true) → DataW.TrodAll enc P W' 0 sp true ts vs ds ps
  | [], vs, ds, ps, _, h, _, _ => by
    obtain ⟨rfl, rfl, rfl⟩ := trodAll_nil h
    exact rfl
  | t :: ts, vs, ds, ps, hr, h, h1, h2 => by
    obtain ⟨v, vs', d, ds', p, q, rfl, rfl, rfl, hp, hq⟩ := trodAll_cons h
    simp only [List.all_cons, Bool.and_eq_true, decide_eq_true_eq] at hr
    exact ⟨p, q, WideElems.Trod_stays hl hr.1.1 hr.1.2 hp (fun x hx => h1 x (List.mem_append_left _ hx)) (fun x hx => h2 x (List.mem_append_left _ hx)),
      trodAll_stays hl hr.2 hq (fun x hx => h1 x (List.mem_append_right _ hx)) (fun x hx => h2 x (List.mem_append_right _ hx)), rfl⟩
theorem law_post {H : Type} {enc : TypeId × Value → H} {P : Program} {f : Func} {s : ChangeSpec} {W W' : World} {args : Array Value} {ds gs : List (DataW H)} {before : List MemPlace} {b : TypeId}
    (hl : laidOutB P = true) (hr : (f.params.toList.all fun t => P.readableRec t && decide (t < P.types.size)) = true) (hrt : f.resultTypes = #[b]) (hb : P.underlying b = some .bool)
    (hv : s.vars = []) (hs : ∀ es : List (DataW H), es.length = f.params.size → s.fn H es = { results := [.lit (.bool true)], args := es })
    (hW : DataW.Whole enc P f.params.toList s.vars false W args.toList ds gs before) (hB : Below W.heap.size W W') :
    s.post enc P f false true false false W args (.bool true) W' := by
  have hW' := hW
  obtain ⟨p, q, hA, hV, rfl, _, _⟩ := hW
  rw [hv] at hV
  obtain ⟨rfl, rfl⟩ := trodVars_none hV
  have hlt : ∀ x ∈ p, x.block < W.heap.size := fun x hx => hW'.lt x (by simpa using hx)
  have hlen : ds.length = f.params.size := by
    have : ∀ {ts : List TypeId} {vs : List Value} {ds : List (DataW H)} {ps : List MemPlace}, DataW.TrodAll enc P W 0 (fun _ => true) true ts vs ds ps → ds.length = ts.length := by
      intro ts
      induction ts with
      | nil => intro vs ds ps h; obtain ⟨_, rfl, _⟩ := trodAll_nil h; rfl
      | cons t ts ih => intro vs ds ps h; obtain ⟨_, _, _, _, _, _, _, rfl, _, _, hq⟩ := trodAll_cons h; simp [ih hq]
    simpa using this hA
  have e := hs ds hlen
  refine ⟨ds, [], p ++ [], [], p, [], hW', ?_, ?_, ?_, hB.frame _, fun h => by cases h⟩
  · rw [List.append_nil, e, hrt]
    exact trodAll_cons_mk (p := []) (shut_bool hb _) trodAll_mk0
  · rw [List.append_nil, e]
    exact trodAll_stays hl hr hA (fun x hx => hB.same (hlt x hx)) (fun x hx => by simpa using hlt x hx)
  · rw [List.append_nil, e, hv]
    exact rfl
end Go.Proofs.YtmknchdciblfjaaGreat
