/- A row of the call's own that collects bundles. -/
import Derived.RangeFuncBox
import Derived.Test.YtpkklmkeflddkaaGreatJb
import Derived.Test.YtpkklmkeflddkaaGreatProg
set_option linter.unusedVariables false
set_option linter.unusedSimpArgs false
namespace Go.Proofs.YtpkklmkeflddkaaGreat
open Go Go.RowKit

theorem infoBun : (Tryz.prog.info? 31).map (fun i => (i.zero, i.size, i.bytes)) = some (some (.agg bun0), 12, 120) := by kernel_rfl

def flatU (rs : List (Bun × Value)) : List Value := rs.flatMap fun r => bunC r.1 r.2
/-- v collects the bundles l; their blocks lie in memory that is not v's own row -/
def OutB (W : World) (N n₀ : Nat) (v : Value) (l : List Bun) : Prop :=
  ∃ rs : List (Bun × Value), rs.map (·.1) = l ∧ W.ownsRow n₀ 31 12 v l.length (flatU rs) ∧ ∀ r ∈ rs, RBlksD W (fun q => q < W.heap.size ∧ v.ownBlock ≠ some q ∧ (q < N ∨ n₀ ≤ q)) r.2 r.1.blocks

theorem OutB.nil (W : World) (N n₀ : Nat) : OutB W N n₀ (.slice none 0 0) [] := ⟨[], rfl, World.ownsRow_nil _ _ _ _, fun r hr => by simp at hr⟩
theorem OutB.new {W : World} {N n₀ g : Nat} (hg : g = W.heap.size) (hb : n₀ ≤ g) : OutB (W.alloc (.cells #[] 31)) N n₀ (.slice (some ⟨g, 0, none⟩) 0 0) [] := ⟨[], rfl, ownsRow_new hg hb, fun r hr => by simp at hr⟩
theorem OutB.lt {W : World} {N n₀ : Nat} {v : Value} {l : List Bun} (h : OutB W N n₀ v l) : ∀ q, v.ownBlock = some q → n₀ ≤ q ∧ q < W.heap.size := by
  obtain ⟨rs, _, ho, _⟩ := h
  exact ho.lt
theorem OutB.cells {W : World} {N n₀ : Nat} {v : Value} {l : List Bun} (h : OutB W N n₀ v l) : ∀ q, v.ownBlock = some q → ∃ cs, W.heap[q]? = some (.cells cs 31 (0, 0)) := by
  obtain ⟨rs, _, ho, _⟩ := h
  intro q hq
  rcases ho.2 with ⟨rfl, _⟩ | ⟨g, cap, cur, rfl, _, hg, _⟩
  · cases hq
  · have : g = q := Option.some.inj hq
    subst this
    exact ⟨cur, hg⟩
theorem OutB.kept {W W' : World} {N n₀ : Nat} {v : Value} {l : List Bun} (h : OutB W N n₀ v l) (k : ∀ q, q < W.heap.size → (q < N ∨ n₀ ≤ q) → ∀ cs e f, W.heap[q]? = some (.cells cs e f) → W'.heap[q]? = W.heap[q]?) (hs : W.heap.size ≤ W'.heap.size) : OutB W' N n₀ v l := by
  obtain ⟨rs, h1, h2, h3⟩ := h
  have kc : ∀ q o u, (q < N ∨ n₀ ≤ q) → W.cell? ⟨q, o, none⟩ = some u → W'.cell? ⟨q, o, none⟩ = some u := fun q o u hN hu => by
    rw [← hu]
    unfold World.cell? at hu
    split at hu
    · rename_i c e f hq
      have hlt : q < W.heap.size := by
        rcases Nat.lt_or_ge q W.heap.size with h | h
        · exact h
        · rw [Array.getElem?_eq_none h] at hq; cases hq
      exact World.cell?_of_block (k q hlt hN _ _ _ hq)
    · cases hu
  have ho : W'.ownsRow n₀ 31 12 v l.length (flatU rs) := ⟨h2.1, h2.2.imp id fun ⟨g, cap, cur, hv, hb, hg, r⟩ => ⟨g, cap, cur, hv, hb, by
    rw [k g (by rcases Nat.lt_or_ge g W.heap.size with h | h; exact h; rw [Array.getElem?_eq_none h] at hg; cases hg) (.inr hb) _ _ _ hg]; exact hg, r⟩⟩
  refine ⟨rs, h1, ho, fun r hr => ?_⟩
  · obtain ⟨a, c, e1, e2, e3, e4, e5⟩ := h3 r hr
    refine ⟨a, c, e1, e2, e3, e4, fun hp => ?_⟩
    obtain ⟨b, o, ea, hb, hi⟩ := e5 hp
    exact ⟨b, o, ea, ⟨by omega, hb.2⟩, fun i x hx => ⟨kc _ _ _ hb.2.2 (hi i x hx).1, kc _ _ _ hb.2.2 (hi i x hx).2.1, kc _ _ _ hb.2.2 (hi i x hx).2.2⟩⟩
theorem OutB.below {W W' : World} {N n₀ : Nat} {v : Value} {l : List Bun} (h : OutB W N n₀ v l) (hb : Below W.heap.size W W') : OutB W' N n₀ v l :=
  h.kept (fun q hq _ _ _ _ _ => hb.block q hq) hb.size
theorem OutB.rbuns {W : World} {N n₀ : Nat} {v : Value} {l : List Bun} (h : OutB W N n₀ v l) : RBuns W W.heap.size v l := by
  obtain ⟨rs, rfl, h2, h3⟩ := h
  exact RBuns.of_own h2 fun r hr => (h3 r hr).to fun b hb => hb.1
theorem OutB.step {W0 W W1 : World} {n₀ N : Nat} {v : Value} {l : List Bun} {rs : List (Bun × Value)} {c : Bun} {u : Value} {g cap : Nat}
    (h1 : rs.map (·.1) = l) (h2 : W.ownsRow n₀ 31 12 v l.length (flatU rs)) (h3 : ∀ r ∈ rs, RBlksD W (fun q => q < W.heap.size ∧ v.ownBlock ≠ some q ∧ (q < N ∨ n₀ ≤ q)) r.2 r.1.blocks)
    (hv : ∀ q, v.ownBlock = some q → q < W0.heap.size) (hu : RBlksD W (OldNew N W0 W) u c.blocks) (hN : N ≤ n₀) (hN2 : N ≤ W.heap.size) (hn0 : n₀ ≤ W0.heap.size)
    (hown : W1.ownsRow n₀ 31 12 (.slice (some ⟨g, 0, none⟩) (l.length + 1) cap) (l.length + 1) (flatU rs ++ bunC c u)) (hg : W.grownBy W1 v.ownBlock) (hat : v.ownBlock = some g ∨ g = W.heap.size) :
    OutB W1 N n₀ (.slice (some ⟨g, 0, none⟩) (l.length + 1) cap) (l ++ [c]) := by
  have key : ∀ r : Bun × Value, RBlksD W (fun q => q < W.heap.size ∧ v.ownBlock ≠ some q ∧ (q < N ∨ n₀ ≤ q)) r.2 r.1.blocks → RBlksD W1 (fun q => q < W1.heap.size ∧ (Value.slice (some ⟨g, 0, none⟩) (l.length + 1) cap).ownBlock ≠ some q ∧ (q < N ∨ n₀ ≤ q)) r.2 r.1.blocks := fun r hr =>
    hr.keep (fun b o hb => World.cell?_of_block (hg.block b hb.1 (fun e => hb.2.1 e.symm))) fun b hb => by
      have := hg.size
      refine ⟨by omega, fun e => ?_, hb.2.2⟩
      have e' : g = b := Option.some.inj e
      subst e'
      rcases hat with h | h
      · exact hb.2.1 h
      · omega
  refine ⟨rs ++ [(c, u)], by simp [h1], by simpa [flatU] using hown, fun r hr => ?_⟩
  rcases List.mem_append.1 hr with hr | hr
  · exact key r (h3 r hr)
  · simp at hr
    subst hr
    refine key _ (hu.keep (fun _ _ _ => rfl) fun b hb => ?_)
    refine ⟨by rcases hb with hb | hb <;> omega, fun e => ?_, by rcases hb with hb | hb; exact .inl hb; exact .inr (by omega)⟩
    have a1 := (h2.lt b e).1
    have a2 := hv b e
    rcases hb with hb | hb <;> omega
theorem bunC_one {c : Bun} {u : Value} (h : u.oneCell' = true) : ∀ x ∈ bunC c u, x.oneCell' = true := by
  intro x hx
  simp [bunC] at hx
  rcases hx with rfl | rfl | rfl | rfl | rfl | rfl | rfl | rfl | rfl | rfl | rfl | rfl
  all_goals first | rfl | exact h
theorem RBlksD.one {w : World} {D : Nat → Prop} {v : Value} {l : List Blk} (h : RBlksD w D v l) : v.oneCell' = true := by
  obtain ⟨a, c, rfl, _⟩ := h; rfl
end Go.Proofs.YtpkklmkeflddkaaGreat
