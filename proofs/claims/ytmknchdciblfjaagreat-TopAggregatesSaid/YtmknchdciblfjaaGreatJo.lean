/- Joined by port.py: XFg XFh XOb XFi -/
import Derived.RangeFuncNested
import Derived.RangeFuncBound
import Derived.RangeFuncCalls
import Derived.RangeFuncLeaves
import Derived.RangeFuncBox
import Derived.RangeFuncFrom
import Derived.Shelf.Abstract
import Derived.Shelf.RegionOpen
import Derived.WalkKit
import Derived.OwnWalkIn
import Derived.TacticsInMore
import Derived.LoopNIn
import Derived.LoopIn
import Derived.Test.YtmknchdciblfjaaGreatJa
import Derived.Test.YtmknchdciblfjaaGreatJb
import Derived.Test.YtmknchdciblfjaaGreatProg
import Derived.Test.YtmknchdciblfjaaGreatJd
import Derived.Test.YtmknchdciblfjaaGreatJe
import Derived.Test.YtmknchdciblfjaaGreatJh
import Derived.Test.YtmknchdciblfjaaGreatJm
set_option linter.unusedVariables false
set_option linter.unusedSimpArgs false
/-! XFg -/
namespace Go.Proofs.YtmknchdciblfjaaGreat
open Go Go.RowKit Go.Shelf
attribute [local go_sem] Oper.semAt_some
/-- a span within another one -/
def SpF (lo hi : Int) : Type := { x : Int × Int // lo ≤ x.1 ∧ x.1 ≤ x.2 ∧ x.2 ≤ hi }
theorem parts_in (F : Fence) (n : Nat) (h : F.fn 76) (hro : F.round = none) (a b : Int) (v : Value) (hv : ∃ fn x y, v = .func fn x y) (w : World) :
    CallsIn F n Tryz.prog 76 #[.agg #[.int .i64 a, .int .i64 b], v] w fun e W' => e = .returned (.func (.func 146) #[] #[.pointer (some ⟨w.heap.size, 0, none⟩), .pointer (some ⟨w.heap.size + 1, 0, none⟩)]) ∧ W' = (w.alloc (.cells #[.int .i64 a, .int .i64 b] 154)).alloc (.cells #[v] 78) := by
  obtain ⟨fn, x, y, rfl⟩ := hv
  refine callsIn_of_wp Tryz.func76 rfl h ?_ hro
  simp only [Tryz.ntmps76, List.size_toArray, List.length_cons, List.length_nil, Nat.reduceAdd, Nat.reduceSub, Array.replicate_succ, Array.replicate_zero, List.push_toArray, List.append_toArray, List.nil_append, List.cons_append]
  gi_wp2
  refine bodyPost_ret (results_tmp rfl _ _ _) rfl ?_
  exact ⟨rfl, rfl⟩
theorem split1_any (k m : Int) (B : Nat) (w : World) (h : w.cell? ⟨B, 0, none⟩ = some (.int .i64 m)) :
    Calls Tryz.prog 28 #[.int .i64 k, .pointer (some ⟨B, 0, none⟩)] w fun e w' => e = .returned (.int .i64 m) ∧ w' = w := by
  go_enter Tryz.func28, Tryz.ntmps28
  go_wp2
  go_ret
  exact ⟨rfl, rfl⟩
/-- the parts' spans -/
def spans (off : Int) (Ff : Nat → Nat) (K : Nat) : List (Int × Int) := (List.range K).map fun k => (off + (Ff k : Int), off + (Ff (k + 1) : Int))
theorem spans_succ (off : Int) (Ff : Nat → Nat) (K : Nat) : spans off Ff (K + 1) = spans off Ff K ++ [(off + (Ff K : Int), off + (Ff (K + 1) : Int))] := by simp [spans, List.range_succ]
theorem spans_len (off : Int) (Ff : Nat → Nat) (K : Nat) : (spans off Ff K).length = K := by simp [spans]
set_option maxRecDepth 100000 in
set_option maxHeartbeats 1000000 in
theorem partsS_in (F : Fence) (n : Nat) (h8 : F.fn 146) (h9 : F.fn 28) (hro : F.round = none) (hn : 1 ≤ n) (l Bx Bs Bm n₀ z : Nat) (off To m : Int) (Ff : Nat → Nat) (K : Nat)
    (hS : ∀ k W, W.cell? ⟨Bm, 0, none⟩ = some (.int .i64 m) → CallsIn F (n - 1) Tryz.prog 28 #[.int .i64 k, .pointer (some ⟨Bm, 0, none⟩)] W fun e w' => e = .returned (.int .i64 m) ∧ w' = W)
    (h0 : Ff 0 = 0) (hK : off + (Ff K : Int) = To) (hF : ∀ k, k < K → off + (Ff k : Int) < To ∧ min (off + (Ff k : Int) + m) To = off + (Ff (k + 1) : Int)) (ho : 0 ≤ off) (hT : To ≤ 1000000) (hm : 1 ≤ m) (hm2 : m ≤ 1000000) (hK2 : K ≤ 1000000)
    (hbx : Bx < n₀) (hbs : Bs < n₀) (hbm : Bm < n₀) (hzx : Bx ≠ z) (hzs : Bs ≠ z) (hzm : Bm ≠ z) (J Jx : List (SpF off To) → World → Prop)
    (hJd : ∀ pre W, J pre W → J pre W.drew)
    (hY : ∀ pre x W, J pre W → pre.length < K → YieldAt F (n - 1) Tryz.prog l #[.agg #[.int .i64 x.1.1, .int .i64 x.1.2]] W fun e W' =>
      (e = .returned (.bool true) ∧ J (pre ++ [x]) W' ∧ KpX n₀ z W W') ∨ (e = .returned (.bool false) ∧ Jx (pre ++ [x]) W'))
    (W : World) (hB0 : W.cell? ⟨Bx, 0, none⟩ = some (.int .i64 off)) (hB1 : W.cell? ⟨Bx, 1, none⟩ = some (.int .i64 To)) (hB2 : W.cell? ⟨Bs, 0, none⟩ = some (.func (.func 28) #[] #[.pointer (some ⟨Bm, 0, none⟩)])) (hB3 : W.cell? ⟨Bm, 0, none⟩ = some (.int .i64 m)) (hJ0 : J [] W) :
    CallsIn F n Tryz.prog 146 #[.func (.yield l) #[] #[], .pointer (some ⟨Bx, 0, none⟩), .pointer (some ⟨Bs, 0, none⟩)] W fun e W' => (∃ v, e = .returned v) ∧
      ((∃ ys : List (SpF off To), ys.map (·.1) = spans off Ff K ∧ J ys W') ∨ (∃ pre, True ∧ Jx pre W')) := by
  have H0 := Lib.hid h0
  have HK := Lib.hid hK
  have HF := Lib.hid hF
  clear h0 hK hF
  refine callsIn_of_wp Tryz.func146 rfl h8 ?_ hro
  simp only [Tryz.ntmps146, List.size_toArray, List.length_cons, List.length_nil, Nat.reduceAdd, Nat.reduceSub, Array.replicate_succ, Array.replicate_zero, List.push_toArray, List.append_toArray, List.nil_append, List.cons_append]
  gi_wp2
  refine wpIn_region_plan (fun W' => W'.cell? ⟨Bx, 0, none⟩ = some (.int .i64 off)) [0, 1, 0, 0] [0, 1, 2, 3] (by kernel_rfl) (by kernel_rfl) ?_ ?_
  · go_simp
  (iterate 4 (refine plan_heldI rfl (by decide) (by rfl) (fun w1 => by rfl) (fun w1 hS => by (try (have hS := hS rfl; obtain hS := hS; repeat (obtain ⟨_, hS⟩ := hS))); go_simp; rfl) ?_; simp only [Act.put, List.setIfInBounds_toArray, List.set_cons_zero, List.set_cons_succ]))
  refine plan_doneI ?_
  gi_wp2
  gi_loopw [4, 5] (fun kv fv w1 => ∃ (k : Nat) (f : Int) (pre : List (SpF off To)), k ≤ K ∧ kv = .int .i64 (k : Int) ∧ fv = .int .i64 f ∧ Hid (f = off + (Ff k : Int)) ∧ 0 ≤ f ∧ f ≤ To ∧ Hid (pre.map (·.1) = spans off Ff k) ∧ J pre w1 ∧ KpX n₀ z W w1) (fun kv _ _ => K - (intOf kv).toNat)
  case atStart => exact ⟨0, off, [], Nat.zero_le _, rfl, rfl, Lib.hid (by rw [H0.out]; simp), ho, by have := HK.out; omega, Lib.hid rfl, hJd _ _ hJ0, (KpX.refl _ _ _).drew⟩
  case round =>
    obtain ⟨k, f, pre, hk, rfl, rfl, Hf, hf1, hf2, HP, hJ, hB⟩ := hrel
    have b1 : wr.cell? ⟨Bx, 1, none⟩ = some (.int .i64 To) := (hB.cell (p := ⟨Bx, 1, none⟩) hbx hzx).trans hB1
    have b2 : wr.cell? ⟨Bs, 0, none⟩ = some (.func (.func 28) #[] #[.pointer (some ⟨Bm, 0, none⟩)]) := (hB.cell (p := ⟨Bs, 0, none⟩) hbs hzs).trans hB2
    have b3 : wr.cell? ⟨Bm, 0, none⟩ = some (.int .i64 m) := (hB.cell (p := ⟨Bm, 0, none⟩) hbm hzm).trans hB3
    by_cases hlt : k < K
    · obtain ⟨q1, q2⟩ := HF.out k hlt
      have Q1 := Lib.hid q1
      have Q2 := Lib.hid q2
      have hft : f < To := by have := Hf.out; omega
      clear q1 q2
      gi_wp2
      refine wpIn_region_plan (fun W' => W'.cell? ⟨Bx, 1, none⟩ = some (.int .i64 To) ∧ W'.cell? ⟨Bs, 0, none⟩ = some (.func (.func 28) #[] #[.pointer (some ⟨Bm, 0, none⟩)])) [0, 1, 0, 2, 0, 0, 1, 0, 0] [0, 1, 2, 5, 6, 3, 4, 7, 8] (by kernel_rfl) (by kernel_rfl) ?_ ?_
      · go_simp
      (iterate 5 (refine plan_heldI rfl (by decide) (by rfl) (fun w1 => by rfl) (fun w1 hS => by (try (have hS := hS rfl; obtain hS := hS; repeat (obtain ⟨_, hS⟩ := hS))); go_simp; rfl) ?_; simp only [Act.put, List.setIfInBounds_toArray, List.set_cons_zero, List.set_cons_succ]))
      (refine plan_keepI rfl rfl (by rfl) (fun K hK => ?_); go_simp)
      refine (hS _ _ (by exact b3)).mono ?_
      rintro e w' ⟨rfl, rfl⟩
      (refine hK _ _ (by go_simp) ?_; clear hK K; (try simp only [Act.put, List.setIfInBounds_toArray, List.set_cons_zero, List.set_cons_succ]))
      have hw : IntKind.i64.wrap (f + m) = f + m := by rw [IntKind.wrap_i64]; omega
      by_cases hmin : f + m ≤ To
      all_goals
        (try (have hmin' : To < f + m := by omega))
        (iterate 3 (refine plan_heldI rfl (by decide) (by rfl) (fun w1 => by rfl) (fun w1 hS => by (try (have hS := hS rfl; obtain hS := hS; repeat (obtain ⟨_, hS⟩ := hS))); go_simp; rfl) ?_; simp only [Act.put, List.setIfInBounds_toArray, List.set_cons_zero, List.set_cons_succ]))
        refine plan_doneI ?_
        clear hw
        have hX : ∀ X : Int, X = min (f + m) To → Hid (pre.map (·.1) ++ [(f, X)] = spans off Ff (k + 1)) ∧ X = off + (Ff (k + 1) : Int) := fun X hX => by
          have h2 := Q2.out
          rw [← Hf.out, ← hX] at h2
          refine ⟨Lib.hid ?_, h2⟩
          rw [spans_succ, HP.out, ← Hf.out, ← h2]
        obtain ⟨X, hXe⟩ : ∃ X, X = min (f + m) To := ⟨_, rfl⟩
        obtain ⟨hX1, hX2⟩ := hX X hXe
        have hXm : X = min (f + m) To := hXe
        have hXb1 : f < X := by omega
        have hXb2 : X ≤ To := by omega
        have hXb0 : off ≤ f := by have := Hf.out; omega
        obtain ⟨xs, hxs⟩ : ∃ x : SpF off To, x.1 = (f, X) := ⟨⟨(f, X), hXb0, by show f ≤ X; omega, hXb2⟩, rfl⟩
        obtain ⟨fn, tmps, assign, body, hy, hR⟩ := hY pre xs wr.drew (hJd _ _ hJ) (by rw [← List.length_map (f := fun x : SpF off To => x.1), HP.out, spans_len]; exact hlt)
        rw [hxs] at hy
        dsimp only at hy
        have HXS := Lib.hid hxs
        clear hxs
        have HX2 := Lib.hid hX2
        have hXc : (f + m ≤ To ∧ X = f + m) ∨ (To < f + m ∧ X = To) := by omega
        clear hX hX2 hXe hXm
        rcases hXc with ⟨_, rfl⟩ | ⟨_, rfl⟩ <;> first | (exfalso; omega) | skip
        gi_wp2
        refine hR.mono ?_
        rintro e W3 (⟨rfl, hJ3, hk3⟩ | ⟨rfl, hJx3⟩)
        · gi_wp2
          go_roundw
          case rel => exact ⟨k + 1, _, _, by omega, by go_num, rfl, HX2, by omega, by omega, (by rw [List.map_append, List.map_cons, HXS.out, List.map_nil]; exact hX1), hJ3, hB.drew.trans hk3⟩
          case measure => simp [intOf]; omega
        · gi_wp2
          refine bodyPost_ret (results_none rfl _ _ _) rfl ?_
          exact ⟨⟨_, rfl⟩, .inr ⟨_, trivial, hJx3⟩⟩
    · obtain rfl : k = K := by omega
      have hft : f = To := by have := Hf.out; have := HK.out; omega
      have HFT := Lib.hid hft
      have hft2 : To ≤ f := by omega
      clear hft
      gi_wp2
      go_end0
      exact ⟨⟨_, rfl⟩, .inl ⟨pre, HP.out, hJ⟩⟩
end Go.Proofs.YtmknchdciblfjaaGreat
/-! XOb -/
namespace Go.Proofs.YtmknchdciblfjaaGreat
open Go Go.RowKit
theorem infoBun : (Tryz.prog.info? 32).map (fun i => (i.zero, i.size, i.bytes)) = some (some (.agg bun0), 12, 120) := by kernel_rfl
def flatU (rs : List (Bun × Value)) : List Value := rs.flatMap fun r => bunC r.1 r.2
/-- v collects the bundles l; their blocks lie in memory that is not v's own row -/
def OutB (W : World) (N n₀ : Nat) (v : Value) (l : List Bun) : Prop :=
  ∃ rs : List (Bun × Value), rs.map (·.1) = l ∧ W.ownsRow n₀ 32 12 v l.length (flatU rs) ∧ ∀ r ∈ rs, RBlksD W (fun q => q < W.heap.size ∧ v.ownBlock ≠ some q ∧ (q < N ∨ n₀ ≤ q)) r.2 r.1.blocks
theorem OutB.nil (W : World) (N n₀ : Nat) : OutB W N n₀ (.slice none 0 0) [] := ⟨[], rfl, World.ownsRow_nil _ _ _ _, fun r hr => by simp at hr⟩
theorem OutB.new {W : World} {N n₀ g : Nat} (hg : g = W.heap.size) (hb : n₀ ≤ g) : OutB (W.alloc (.cells #[] 32)) N n₀ (.slice (some ⟨g, 0, none⟩) 0 0) [] := ⟨[], rfl, ownsRow_new hg hb, fun r hr => by simp at hr⟩
theorem OutB.lt {W : World} {N n₀ : Nat} {v : Value} {l : List Bun} (h : OutB W N n₀ v l) : ∀ q, v.ownBlock = some q → n₀ ≤ q ∧ q < W.heap.size := by
  obtain ⟨rs, _, ho, _⟩ := h
  exact ho.lt
theorem OutB.cells {W : World} {N n₀ : Nat} {v : Value} {l : List Bun} (h : OutB W N n₀ v l) : ∀ q, v.ownBlock = some q → ∃ cs, W.heap[q]? = some (.cells cs 32 (0, 0)) := by
  obtain ⟨rs, _, ho, _⟩ := h
  intro q hq
  rcases ho.2 with ⟨rfl, _⟩ | ⟨g, cap, cur, rfl, _, hg, _⟩
  · cases hq
  · have : g = q := Option.some.inj hq
    subst this
    exact ⟨cur, hg⟩
theorem OutB.kept {W W' : World} {N n₀ : Nat} {v : Value} {l : List Bun} (h : OutB W N n₀ v l) (k : ∀ q, q < W.heap.size → (q < N ∨ n₀ ≤ q) → ∀ cs e f, W.heap[q]? = some (.cells cs e f) → W'.heap[q]? = W.heap[q]?) (hs : W.heap.size ≤ W'.heap.size) : OutB W' N n₀ v l := by
  obtain ⟨rs, h1, h2, h3⟩ := h
  have kc : ∀ q o u, (q < N ∨ n₀ ≤ q) → W.cell? ⟨q, o, none⟩ = some u → W'.cell? ⟨q, o, none⟩ = some u := fun q o u hN hu => by
    rw [← hu]
    unfold World.cell? at hu
    split at hu
    · rename_i c e f hq
      have hlt : q < W.heap.size := by
        rcases Nat.lt_or_ge q W.heap.size with h | h
        · exact h
        · rw [Array.getElem?_eq_none h] at hq; cases hq
      exact World.cell?_of_block (k q hlt hN _ _ _ hq)
    · cases hu
  have ho : W'.ownsRow n₀ 32 12 v l.length (flatU rs) := ⟨h2.1, h2.2.imp id fun ⟨g, cap, cur, hv, hb, hg, r⟩ => ⟨g, cap, cur, hv, hb, by
    rw [k g (by rcases Nat.lt_or_ge g W.heap.size with h | h; exact h; rw [Array.getElem?_eq_none h] at hg; cases hg) (.inr hb) _ _ _ hg]; exact hg, r⟩⟩
  refine ⟨rs, h1, ho, fun r hr => ?_⟩
  · obtain ⟨a, c, e1, e2, e3, e4, e5⟩ := h3 r hr
    refine ⟨a, c, e1, e2, e3, e4, fun hp => ?_⟩
    obtain ⟨b, o, ea, hb, hi⟩ := e5 hp
    exact ⟨b, o, ea, ⟨by omega, hb.2⟩, fun i x hx => ⟨kc _ _ _ hb.2.2 (hi i x hx).1, kc _ _ _ hb.2.2 (hi i x hx).2.1, kc _ _ _ hb.2.2 (hi i x hx).2.2⟩⟩
theorem OutB.below {W W' : World} {N n₀ : Nat} {v : Value} {l : List Bun} (h : OutB W N n₀ v l) (hb : Below W.heap.size W W') : OutB W' N n₀ v l :=
  h.kept (fun q hq _ _ _ _ _ => hb.block q hq) hb.size
theorem OutB.rbuns {W : World} {N n₀ : Nat} {v : Value} {l : List Bun} (h : OutB W N n₀ v l) : RBuns W W.heap.size v l := by
  obtain ⟨rs, rfl, h2, h3⟩ := h
  exact RBuns.of_own h2 fun r hr => (h3 r hr).to fun b hb => hb.1
theorem OutB.step {W0 W W1 : World} {n₀ N : Nat} {v : Value} {l : List Bun} {rs : List (Bun × Value)} {c : Bun} {u : Value} {g cap : Nat}
    (h1 : rs.map (·.1) = l) (h2 : W.ownsRow n₀ 32 12 v l.length (flatU rs)) (h3 : ∀ r ∈ rs, RBlksD W (fun q => q < W.heap.size ∧ v.ownBlock ≠ some q ∧ (q < N ∨ n₀ ≤ q)) r.2 r.1.blocks)
    (hv : ∀ q, v.ownBlock = some q → q < W0.heap.size) (hu : RBlksD W (OldNew N W0 W) u c.blocks) (hN : N ≤ n₀) (hN2 : N ≤ W.heap.size) (hn0 : n₀ ≤ W0.heap.size)
    (hown : W1.ownsRow n₀ 32 12 (.slice (some ⟨g, 0, none⟩) (l.length + 1) cap) (l.length + 1) (flatU rs ++ bunC c u)) (hg : W.grownBy W1 v.ownBlock) (hat : v.ownBlock = some g ∨ g = W.heap.size) :
    OutB W1 N n₀ (.slice (some ⟨g, 0, none⟩) (l.length + 1) cap) (l ++ [c]) := by
  have key : ∀ r : Bun × Value, RBlksD W (fun q => q < W.heap.size ∧ v.ownBlock ≠ some q ∧ (q < N ∨ n₀ ≤ q)) r.2 r.1.blocks → RBlksD W1 (fun q => q < W1.heap.size ∧ (Value.slice (some ⟨g, 0, none⟩) (l.length + 1) cap).ownBlock ≠ some q ∧ (q < N ∨ n₀ ≤ q)) r.2 r.1.blocks := fun r hr =>
    hr.keep (fun b o hb => World.cell?_of_block (hg.block b hb.1 (fun e => hb.2.1 e.symm))) fun b hb => by
      have := hg.size
      refine ⟨by omega, fun e => ?_, hb.2.2⟩
      have e' : g = b := Option.some.inj e
      subst e'
      rcases hat with h | h
      · exact hb.2.1 h
      · omega
  refine ⟨rs ++ [(c, u)], by simp [h1], by simpa [flatU] using hown, fun r hr => ?_⟩
  rcases List.mem_append.1 hr with hr | hr
  · exact key r (h3 r hr)
  · simp at hr
    subst hr
    refine key _ (hu.keep (fun _ _ _ => rfl) fun b hb => ?_)
    refine ⟨by rcases hb with hb | hb <;> omega, fun e => ?_, by rcases hb with hb | hb; exact .inl hb; exact .inr (by omega)⟩
    have a1 := (h2.lt b e).1
    have a2 := hv b e
    rcases hb with hb | hb <;> omega
theorem bunC_one {c : Bun} {u : Value} (h : u.oneCell' = true) : ∀ x ∈ bunC c u, x.oneCell' = true := by
  intro x hx
  simp [bunC] at hx
  rcases hx with rfl | rfl | rfl | rfl | rfl | rfl | rfl | rfl | rfl | rfl | rfl | rfl
  all_goals first | rfl | exact h
theorem RBlksD.one {w : World} {D : Nat → Prop} {v : Value} {l : List Blk} (h : RBlksD w D v l) : v.oneCell' = true := by
  obtain ⟨a, c, rfl, _⟩ := h; rfl
end Go.Proofs.YtmknchdciblfjaaGreat
/-! XFi -/
namespace Go.Proofs.YtmknchdciblfjaaGreat
open Go Go.RowKit Go.Shelf
attribute [local go_sem] Oper.semAt_some
def partsOf (b : Bun) (Ff : Nat → Nat) (K : Nat) : List Bun := (spans b.off Ff K).map fun x => cutS b x.1 x.2
/-- a list of bundles comes back -/
theorem OutB.mono {W : World} {N n₀ n₁ : Nat} {v : Value} {l : List Bun} (h : OutB W N n₀ v l) (k : n₁ ≤ n₀) : OutB W N n₁ v l := by
  obtain ⟨rs, h1, h2, h3⟩ := h
  refine ⟨rs, h1, ⟨h2.1, ?_⟩, fun r hr => (h3 r hr).keep (fun _ _ _ => rfl) fun q hq => ⟨hq.1, hq.2.1, hq.2.2.imp id (Nat.le_trans k)⟩⟩
  rcases h2.2 with e | ⟨g, cap, cur, e1, e2, e3⟩
  · exact .inl e
  · exact .inr ⟨g, cap, cur, e1, Nat.le_trans k e2, e3⟩
theorem OutB.one {W : World} {N n₀ g : Nat} {b : Bun} {u : Value} (h : W.heap[g]? = some (.cells (bunC b u).toArray 32 (0, 0))) (hg : n₀ ≤ g) (hN : N ≤ n₀) (hr : RBlks W N u b.blocks) : OutB W N n₀ (.slice (some ⟨g, 0, none⟩) 1 1) [b] :=
  ⟨[(b, u)], rfl, ⟨by simp [flatU, bunC], .inr ⟨g, 1, _, rfl, hg, h, Nat.le_refl _, by simp [maxLen], by simp [bunC], by simp [flatU, bunC]⟩⟩, fun r hr' => by
    have e : r = (b, u) := by simpa using hr'
    subst e
    exact (RBlksD.of hr).keep (fun _ _ _ => rfl) fun q (hq : q < N) => ⟨by have := (Array.getElem?_eq_some_iff.1 h).1; omega, fun e => by have e2 : g = q := Option.some.inj e; omega, .inl hq⟩⟩
def BunsPost (N : Nat) (l : List Bun) (w : World) (e : Ending) (w' : World) : Prop := ∃ v, e = .returned v ∧ OutB w' N w.heap.size v l ∧ Below w.heap.size w w'
/-- what the caller of parts asks of it -/
def PartsSeq (w : World) (off To : Int) (v : Value) (Ff : Nat → Nat) (K : Nat) : Prop :=
  ∀ (Bx Bs n₀ z : Nat) (W : World), Below w.heap.size w W → Bx < n₀ → Bs < n₀ → Bx ≠ z → Bs ≠ z → w.heap.size ≤ z → w.heap.size ≤ n₀ → n₀ ≤ W.heap.size →
    W.cell? ⟨Bx, 0, none⟩ = some (.int .i64 off) → W.cell? ⟨Bx, 1, none⟩ = some (.int .i64 To) → W.cell? ⟨Bs, 0, none⟩ = some v →
    SeqStopsK Fence.wide 11 Tryz.prog 146 #[.pointer (some ⟨Bx, 0, none⟩), .pointer (some ⟨Bs, 0, none⟩)] (fun x : SpF off To => #[Value.agg #[.int .i64 x.1.1, .int .i64 x.1.2]]) (KpX n₀ z) (fun ys => ys.map (·.1) = spans off Ff K) (fun _ => True) K W
theorem keepsFrom_below {A B' : World} {C : Nat} (h : Below A.heap.size A B') : KeepsFrom C A B' := ⟨h.size, fun k o _ hk _ => by
  have hlt : k < A.heap.size := (Array.getElem?_eq_some_iff.1 hk).1
  rw [h.block k hlt]; exact hk⟩
set_option maxRecDepth 100000 in
set_option maxHeartbeats 2000000 in
theorem divide_any (b : Bun) (u v : Value) (N : Nat) (w : World) (hN : N ≤ w.heap.size) (h : RBlks w N u b.blocks) (To : Int) (Ff : Nat → Nat) (K : Nat)
    (hTo : To = b.off + b.payload.length) (h0 : 0 ≤ b.off) (h4 : b.off ≤ 100000) (h5 : b.payload.length ≤ 100000) (hK : K ≤ 100000)
    (hf : ∀ x ∈ b.blocks, 0 ≤ x.flags ∧ x.flags ≤ 15) (hl : b.blocks.length ≤ 1000) (hv : ∃ fn x y, v = .func fn x y) (hseq : PartsSeq w b.off To v Ff K) :
    Calls Tryz.prog 27 #[.agg (bunC b u).toArray, v] w (BunsPost N (partsOf b Ff K) w) := by
  refine (callsIn_wide (n := 12)).1 ?_
  obtain ⟨ua, uc, rfl, _⟩ := id h
  have HR := Lib.hid h
  have HF := Lib.hid hf
  have HTo := Lib.hid hTo
  have HSQ := Lib.hid hseq
  obtain ⟨fn, fx, fy, rfl⟩ := hv
  obtain ⟨i0, hin, hz0, hz1, hz2⟩ := info_parts infoBun
  clear h hf hTo hseq
  refine callsIn_of_wp_marks Tryz.func27 rfl trivial ?_ rfl
  simp only [Tryz.ntmps27, List.size_toArray, List.length_cons, List.length_nil, Nat.reduceAdd, Nat.reduceSub, Array.replicate_succ, Array.replicate_zero, List.push_toArray, List.append_toArray, List.nil_append, List.cons_append, bunC]
  gi_wp2_with fail
  refine ⟨trivial, callsIn_wide.2 ((span_any b _ _ h0 h4 h5).mono ?_)⟩
  rintro e w1 ⟨rfl, hb1⟩
  obtain ⟨k1, f1⟩ := bcell hb1
  have z1 : w.heap.size + 1 < w1.heap.size := by have := hb1.size; simp at this; omega
  have hB1 : Below w.heap.size w w1 := belowA
  have hout : Boxed w1 (w.heap.size + 1) 22 (.slice none 0 0) := (hb1.block _ (by simp)).trans (by repeat (first | exact heap_new' (by first | rfl | (simp; done)) | refine (Below.heap_alloc _ _ _ (by first | (simp; done) | (simp; omega))).trans ?_))
  have hbb : w1.heap[w.heap.size]? = some (.cells (bunC b (.slice ua b.blocks.length uc)).toArray 32 (0, 0)) := (hb1.block _ (by simp; omega)).trans (by repeat (first | exact heap_new' (by first | rfl | (simp; done)) | refine (Below.heap_alloc _ _ _ (by first | (simp; done) | (simp; omega))).trans ?_))
  have HBB := Lib.hid hbb
  clear hbb k1 f1
  rw [← HTo.out]
  gi_wp2_with fail
  refine ⟨trivial, (parts_in Fence.wide _ trivial rfl _ _ _ ⟨_, _, _, rfl⟩ _).mono ?_⟩
  rintro e w2 ⟨rfl, rfl⟩
  obtain ⟨W0, hW0⟩ : ∃ W0, (w1.alloc (.cells #[.int .i64 b.off, .int .i64 To] 154)).alloc (.cells #[.func fn fx fy] 78) = W0 := ⟨_, rfl⟩
  have hs0 : W0.heap.size = w1.heap.size + 2 := by rw [← hW0]; simp
  have hB0 : Below w.heap.size w W0 := by rw [← hW0]; exact belowA
  have hout0 : Boxed W0 (w.heap.size + 1) 22 (.slice none 0 0) := by rw [← hW0]; exact (hout.alloc _).alloc _
  have hbb0 : W0.heap[w.heap.size]? = some (.cells (bunC b (.slice ua b.blocks.length uc)).toArray 32 (0, 0)) := by
    rw [← hW0]; exact ((Below.heap_alloc _ _ _ (by simp; omega)).trans (Below.heap_alloc _ _ _ (by omega))).trans HBB.out
  have hx0 : W0.heap[w1.heap.size]? = some (.cells #[.int .i64 b.off, .int .i64 To] 154 (0, 0)) := by rw [← hW0]; exact (by repeat (first | exact heap_new' (by first | rfl | (simp; done)) | refine (Below.heap_alloc _ _ _ (by first | (simp; done) | (simp; omega))).trans ?_))
  have hx1 : W0.heap[w1.heap.size + 1]? = some (.cells #[.func fn fx fy] 78 (0, 0)) := by rw [← hW0]; exact (by repeat (first | exact heap_new' (by first | rfl | (simp; done)) | refine (Below.heap_alloc _ _ _ (by first | (simp; done) | (simp; omega))).trans ?_))
  have cx0 : W0.cell? ⟨w1.heap.size, 0, none⟩ = some (.int .i64 b.off) := cellB hx0 0
  have cx1 : W0.cell? ⟨w1.heap.size, 1, none⟩ = some (.int .i64 To) := cellB hx0 1
  have cs0 : W0.cell? ⟨w1.heap.size + 1, 0, none⟩ = some (.func fn fx fy) := cellB hx1 0
  clear hx0 hx1
  have HW0 := Lib.hid hW0
  have HS0 := Lib.hid hs0
  have hsz : w1.heap.size + 1 < W0.heap.size := by omega
  rw [hW0]
  clear hW0 hs0
  gi_wp2
  refine wpIn_rangeFunc_ownH rfl (by omega) (gf := 146) (lb := #[.pointer (some ⟨w1.heap.size, 0, none⟩), .pointer (some ⟨w1.heap.size + 1, 0, none⟩)]) rfl trivial (enters_of Tryz.func146 (by kernel_rfl) rfl)
    (HSQ.out w1.heap.size (w1.heap.size + 1) W0.heap.size (w.heap.size + 1) W0 hB0 (by omega) (by omega) (by omega) (by omega) (by omega) hB0.size (Nat.le_refl _) cx0 cx1 cs0) (fun h k => h.trans k) (fun W l o o' hl _ _ _ => KpX.putObj W o' hl) (Below.refl _ _) (fun _ => rfl)
    (fun pre W => (∃ vo, Boxed W (w.heap.size + 1) 22 vo ∧ OutB W N W0.heap.size vo (pre.map fun x => cutS b x.1.1 x.1.2)) ∧ (W.heap[w.heap.size]? = some (.cells (bunC b (.slice ua b.blocks.length uc)).toArray 32 (0, 0)) ∧ Below w.heap.size w W ∧ W0.heap.size ≤ W.heap.size))
    (fun _ _ _ => False) ?hI (fun _ _ _ _ _ hs _ _ => hs) ?h0
    (fun x a' W => ∃ Bx, W0.heap.size ≤ Bx ∧ Bx < W.heap.size ∧ W.heap[Bx]? = some (.cells #[.int .i64 x.1.1, .int .i64 x.1.2] 154 (0, 0)) ∧ a' = { tmps := #[.agg (bunC b (.slice ua b.blocks.length uc)).toArray, .func fn fx fy, .pointer (some ⟨w.heap.size, 0, none⟩), undef, .slice none 0 0, .pointer (some ⟨w.heap.size + 1, 0, none⟩), .pointer (some ⟨Bx, 0, none⟩), .agg (bunC b (.slice ua b.blocks.length uc)).toArray, .agg #[.int .i64 b.off, .int .i64 To], .func fn fx fy, .func (.func 146) #[] #[.pointer (some ⟨w1.heap.size, 0, none⟩), .pointer (some ⟨w1.heap.size + 1, 0, none⟩)], .agg #[.int .i64 x.1.1, .int .i64 x.1.2], undef, undef, undef, undef, undef, undef, undef, undef, undef, undef], defers := [] }) ?hA ?assign ?body ?done ?stop
  case hI =>
    refine OwnFrom.and (fun s A C row hs hg hr => ?_) (OwnFrom.and (fun s A C row hs hg hr => (ownC hg hr _ _ _ _ hs).trans hs) (OwnFrom.and (ownFrom_below (Nat.le_refl _) hB0.size) (fun s A C row hs hg hr => Nat.le_trans hs hg.size)))
    obtain ⟨vo, h1, h2⟩ := hs
    exact ⟨vo, (ownC hg hr _ _ _ _ h1).trans h1, h2.kept (fun q _ _ cs e f hq => ownC hg hr q cs e f hq) hg.size⟩
  case h0 => exact ⟨⟨_, hout0, OutB.nil _ _ _⟩, hbb0, hB0, Nat.le_refl _⟩
  case hA =>
    intro x a' s A C row hs hg hr
    obtain ⟨Bx, e1, e2, e3, e4⟩ := hs
    exact ⟨Bx, e1, Nat.lt_of_lt_of_le e2 hg.size, (ownC hg hr _ _ _ _ e3).trans e3, e4⟩
  case assign =>
    rintro l pre x W K' ⟨⟨vo, h1, h2⟩, h3, hB, hW0⟩ hK'
    gi_wp2
    refine hK' _ _ ((KeepsOthers.alloc _ _).from _) ?_ ⟨⟨vo, h1.alloc _, h2.below (Below.refl _ _ |>.alloc (Nat.le_refl _) _)⟩, (Below.heap_alloc _ _ _ (by have := h1.lt; omega)).trans h3, hB.alloc hB.size _, by simp; omega⟩ ⟨W.heap.size, hW0, by simp, heap_new, rfl⟩
    exact ⟨by simp, fun k hk _ => Below.heap_alloc _ _ _ (by omega)⟩
  case body =>
    rintro l pre x a' W hll ⟨r, hr⟩ ⟨⟨vo, h1, h2⟩, h3, hB, hW0⟩ ⟨Bx, e1, e2, e3, rfl⟩ hlt
    have c1 := h1.cell
    have c2 : ∀ o, W.cell? ⟨w.heap.size, o, none⟩ = (bunC b (.slice ua b.blocks.length uc)).toArray[o]? := fun o => cellB h3 o
    simp only [bunC] at c2
    have c3 : W.cell? ⟨Bx, 0, none⟩ = some (.int .i64 x.1.1) := cellB e3 0
    have c4 : W.cell? ⟨Bx, 1, none⟩ = some (.int .i64 x.1.2) := cellB e3 1
    have hS : ∀ V : World, (∀ q o, q < W.heap.size → V.cell? ⟨q, o, none⟩ = W.cell? ⟨q, o, none⟩) → V.cell? ⟨w.heap.size + 1, 0, none⟩ = some vo ∧ (∀ o, V.cell? ⟨w.heap.size, o, none⟩ = #[.int .i64 b.src, .int .i64 b.crt, .int .i64 b.seq, .int .i64 b.off, .int .i64 b.tot, .int .i64 b.dk, .int .i64 b.dn, .int .i64 b.life, .int .i64 b.prio, .int .i64 b.flags, .slice ua b.blocks.length uc, .string (B b.payload)][o]?) ∧ V.cell? ⟨Bx, 0, none⟩ = some (.int .i64 x.1.1) ∧ V.cell? ⟨Bx, 1, none⟩ = some (.int .i64 x.1.2) := fun V hV =>
      ⟨(hV _ _ h1.lt).trans c1, fun o => (hV _ _ (by have := h1.lt; omega)).trans (c2 o), (hV _ _ e2).trans c3, (hV _ _ e2).trans c4⟩
    have HSS := Lib.hid hS
    clear hS
    gi_wp2
    refine wpIn_region_plan (fun W' => W'.cell? ⟨w.heap.size + 1, 0, none⟩ = some vo ∧ (∀ o, W'.cell? ⟨w.heap.size, o, none⟩ = #[.int .i64 b.src, .int .i64 b.crt, .int .i64 b.seq, .int .i64 b.off, .int .i64 b.tot, .int .i64 b.dk, .int .i64 b.dn, .int .i64 b.life, .int .i64 b.prio, .int .i64 b.flags, .slice ua b.blocks.length uc, .string (B b.payload)][o]?) ∧ W'.cell? ⟨Bx, 0, none⟩ = some (.int .i64 x.1.1) ∧ W'.cell? ⟨Bx, 1, none⟩ = some (.int .i64 x.1.2)) [1, 1, 0, 1, 0, 1, 2, 2, 3, 3] [0, 1, 2, 3, 4, 5, 6, 7, 8, 9] (by kernel_rfl) (by kernel_rfl) ?_ ?_
    · go_simp
    (iterate 6 (refine plan_heldI rfl (by decide) (by rfl) (fun w1 => by rfl) (fun w1 hS => by (try (have hS := hS rfl; obtain hS := hS; repeat (obtain ⟨_, hS⟩ := hS))); go_simp; rfl) ?_; simp only [Act.put, List.setIfInBounds_toArray, List.set_cons_zero, List.set_cons_succ]))
    (refine plan_keepI rfl rfl (by rfl) (fun K hK => ?_); go_simp)
    have l1 := h1.lt
    have l0 : w.heap.size < W.heap.size := by omega
    have hx1 := x.2.1
    have hx2 := x.2.2.1
    have hx3 := x.2.2.2
    refine ⟨trivial, CallsIn.inRound l (callsIn_wide.2 ((cut_any b _ x.1.1 x.1.2 N W.drew (by show N ≤ W.heap.size; omega) (HR.out.below (C := w.heap.size) (bdrew hB) hN (Nat.le_refl N)) h0 hx1 hx2 (by rw [← HTo.out]; exact hx3) h4 h5 HF.out hl).mono ?_))⟩
    rintro e w2 ⟨u2, rfl, hr2, hb2⟩
    obtain ⟨a2, c2', rfl, _⟩ := id hr2
    obtain ⟨c, hc⟩ : ∃ c, cutS b x.1.1 x.1.2 = c := ⟨_, rfl⟩
    rw [hc] at hr2 ⊢
    have HC := Lib.hid hc
    have HR2 := Lib.hid hr2
    clear hc hr2
    obtain ⟨k2, f2⟩ := bcell hb2
    have z2 : W.heap.size ≤ w2.heap.size := hb2.size
    have l1' : w.heap.size + 1 < w2.heap.size := by omega
    have l0' : w.heap.size < w2.heap.size := by omega
    have e2' : Bx < w2.heap.size := by omega
    simp only [bunC]
    have w2c : ∀ q o, q < W.heap.size → w2.cell? ⟨q, o, none⟩ = W.cell? ⟨q, o, none⟩ := fun q o hq => hb2.cell (p := ⟨q, o, none⟩) hq
    (refine hK _ _ (by exact HSS.out _ w2c) ?_; clear hK K; (try simp only [Act.put, List.setIfInBounds_toArray, List.set_cons_zero, List.set_cons_succ]))
    (refine plan_keepI rfl rfl (by rfl) (fun K hK => ?_); go_simp)
    (refine hK _ _ (by exact HSS.out _ fun q o hq => (World.cell?_alloc_lt _ _ _ (by show q < w2.heap.size; omega)).trans (w2c q o hq)) ?_; clear hK K; (try simp only [Act.put, List.setIfInBounds_toArray, List.set_cons_zero, List.set_cons_succ]))
    have hb2' : Below W.heap.size W w2 := ⟨hb2.os, hb2.tape, hb2.output, hb2.size, hb2.block⟩
    obtain ⟨rs, hrs1, hrs2, hrs3⟩ := h2.below hb2'
    have hlen : (pre.map fun x => cutS b x.1.1 x.1.2).length = pre.length := by simp
    have hlen2 : pre.length < 100001 := by omega
    refine plan_lateI rfl rfl (by rfl) (fun K' hK' => ?_)
    refine wpIn_append_lies _ _ _ rfl (by rfl) W0.heap.size 32 i0 _ 12 120 Tryz.underlying22 hin hz0 hz1 hz2 rfl (by omega) vo (pre.map fun x => cutS b x.1.1 x.1.2).length _ (by rfl) (hrs2.alloc _) ⟨w2.heap.size, 0, none⟩ 1 1 (bunC c (.slice a2 c.blocks.length c2')) (by rfl) rfl (news_one (t := 32) (by exact heap_new)) (bunC_one rfl) (by omega) (by rw [hlen]; simp only [maxLen]; omega) (by rw [hlen]; omega) (by simp; omega) (w2.heap.size + 1) (by simp) ?_
    intro g cap w3 hown3 hg3 hat3 hlt3
    have hvo : ∀ q, vo.ownBlock = some q → W0.heap.size ≤ q ∧ q < W.heap.size := h2.lt
    have keep3 : ∀ q, q < W0.heap.size → w3.heap[q]? = W.heap[q]? := fun q hq =>
      ((hg3.block q (by simp; omega) (fun e => by have := (hvo q e.symm).1; omega)).trans (Below.heap_alloc _ _ _ (by omega))).trans (hb2'.block q (by omega))
    have d1 : w3.heap[w.heap.size + 1]? = some (.cells #[vo] 22 (0, 0)) := (keep3 _ (by omega)).trans h1
    have d0 := (keep3 w.heap.size (by omega)).trans h3
    have hB3 : Below w.heap.size W w3 := (balloc (hb2'.mono (by omega)) (by omega)).grown hg3 (by simp; omega) (fun q hq => by have := hvo q hq; omega)
    have hst := OutB.step (W0 := W.drew) (N := N) (cap := cap) (W := w2.alloc (.cells (bunC c (.slice a2 c.blocks.length c2')).toArray 32)) hrs1 (hrs2.alloc _) (fun r hr => (hrs3 r hr).keep (fun q o hq => World.cell?_alloc_lt _ _ _ hq.1) (fun q hq => ⟨by have := hq.1; simp; omega, hq.2⟩))
      (fun q hq => (hvo q hq).2) (HR2.out.keep (fun q o hq => World.cell?_alloc_lt _ _ _ (by show q < w2.heap.size; rcases hq with hq | hq <;> omega)) (fun q hq => by rcases hq with hq | hq; exact .inl hq; exact .inr ⟨hq.1, by simp; omega⟩)) (by omega) (by simp; omega) (by show W0.heap.size ≤ W.heap.size; omega) hown3 hg3 (by rcases hat3 with h | h; exact .inl h; exact .inr (by simpa using h))
    have HST := Lib.hid hst
    have D0 := Lib.hid d0
    have e1c := cellB d1 0
    have e1f := frozenB d1 0
    have HD1 : Hid (Boxed w3 (w.heap.size + 1) 22 vo) := Lib.hid d1
    have hz3 : W.heap.size ≤ w3.heap.size := Nat.le_trans hb2'.size (Nat.le_trans (by simp) hg3.size)
    clear hst d0 d1 keep3 hown3 hat3 w2c k2 f2
    refine hK' _ _ ?_
    clear hK' K'
    simp only [Act.put, List.setIfInBounds_toArray, List.set_cons_zero, List.set_cons_succ]
    (refine plan_lateI rfl rfl (by rfl) (fun K hK => ?_); go_simp)
    (refine hK _ _ ?_; clear hK K; (try simp only [Act.put, List.setIfInBounds_toArray, List.set_cons_zero, List.set_cons_succ]))
    refine plan_doneI ?_
    gi_wp2
    have hz3' : W0.heap.size ≤ w3.heap.size := by omega
    refine ⟨⟨by simp; omega, fun k o hk ho hc => ?_⟩, ⟨by simp; omega, fun k hk hne => ?_⟩, ⟨_, HD1.out.set _, ?_⟩, ?_, ?_, by simp; omega⟩
    · have hkl : k < W.heap.size := (Array.getElem?_eq_some_iff.1 ho).1
      rw [Below.heap_setCell _ _ _ _ (by show k ≠ w.heap.size + 1; omega), hg3.block k (by simp; omega) (fun e => ?_), Below.heap_alloc _ _ _ (by omega), hb2'.block k hkl, ho]
      obtain ⟨cs, hcs⟩ := h2.cells k e.symm
      rw [ho] at hcs
      injection hcs with hcs
      subst hcs
      cases hc
    · have hkl : k < W.heap.size := by omega
      rw [Below.heap_setCell _ _ _ _ (by show k ≠ w.heap.size + 1; omega), hg3.block k (by simp; omega) (fun e => ?_), Below.heap_alloc _ _ _ (by omega), hb2'.block k hkl]
      have := (hvo k e.symm).1
      omega
    · have h := HST.out.kept (W' := w3.setCell ⟨w.heap.size + 1, 0, none⟩ (.slice (some ⟨g, 0, none⟩) ((pre.map fun x => cutS b x.1.1 x.1.2).length + 1) cap)) (fun q _ hq _ _ _ _ => Below.heap_setCell _ _ _ _ (by show q ≠ w.heap.size + 1; omega)) (by simp)
      rw [hlen] at h
      rw [List.map_append, List.map_cons, List.map_nil, HC.out]
      exact h
    · rw [Below.heap_setCell _ _ _ _ (by show w.heap.size ≠ w.heap.size + 1; omega)]; exact D0.out
    · exact bset (hB.trans hB3) (by show w.heap.size ≤ w.heap.size + 1; omega)
  case done =>
    rintro D ys W hD hys ⟨⟨vo, h1, h2⟩, h3, hB, hW0⟩ hK'
    have c1 := h1.cell
    gi_wp2
    refine ⟨by simp, .inl ⟨_, _, rfl, run_takeDeferred hK', ?_⟩⟩
    refine ⟨_, results_tmp rfl _ _ _, vo, rfl, ?_, hB.grown (grownBy_putObj' W D _) hB.size (fun q hq => by injection hq with hq; omega)⟩
    have h := (h2.kept (W' := W.putObj D (.deferred none)) (fun q hq _ cs e f hc => (grownBy_putObj' W D _).block q hq (fun e' => by
      injection e' with e'
      subst e'
      rw [hK'] at hc
      cases hc)) (grownBy_putObj' W D _).size).mono hB0.size
    have e1 : (ys.map fun x => cutS b x.1.1 x.1.2) = partsOf b Ff K := by
      unfold partsOf
      rw [← hys, List.map_map]; rfl
    rw [e1] at h
    exact h
  case stop =>
    rintro D c pre W _ _ h _
    exact h.elim
end Go.Proofs.YtmknchdciblfjaaGreat
