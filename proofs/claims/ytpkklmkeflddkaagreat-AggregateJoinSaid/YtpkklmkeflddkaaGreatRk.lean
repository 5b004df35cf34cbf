/- Chapter 19, the reference's Groups: its relations in plain Lean. -/
import Derived.Test.YtpkklmkeflddkaaGreatRd
import Derived.Test.YtpkklmkeflddkaaGreatRe
set_option linter.unusedVariables false
set_option linter.unusedSimpArgs false
namespace Go.Proofs.YtpkklmkeflddkaaGreat
open Go Go.RowKit
abbrev pickA (l : List Bun) (gs : List (List Int)) : List (List Bun) := gs.map (pick l)
theorem rg_put {l : List Bun} {gs : List (List Int)} {k q : Nat} {b : Bun} {g : List Int} (hx : l[k]? = some b) (hg : gs[q]? = some g) : grPut q k b (gs, pickA l gs) = (gs.set q (g ++ [(k : Int)]), pickA l (gs.set q (g ++ [(k : Int)]))) := by
  have e1 : gs.getD q [] = g := by rw [List.getD_eq_getElem?_getD, hg]; rfl
  have e2 : (pickA l gs).getD q [] = pick l g := by rw [List.getD_eq_getElem?_getD, List.getElem?_map, hg]; rfl
  unfold grPut
  simp only [e1, e2]
  rw [show pickA l (gs.set q (g ++ [(k : Int)])) = (pickA l gs).set q (pick l (g ++ [(k : Int)])) from List.map_set, pick_append l g k b hx]
theorem rg_old {most : Int} {l : List Bun} {gs : List (List Int)} {R : GSt} {k q : Nat} {b : Bun} (hx : l[k]? = some b) (hpk : groupL most (l.drop k) k (gs, pickA l gs) = R) (hq : q < gs.length) (h1 : ∀ x ∈ gs.take q, fitB most b (pick l x) = false) (h2 : ∀ x, gs[q]? = some x → fitB most b (pick l x) = true) :
    groupL most (l.drop (k + 1)) (k + 1) (grPut q k b (gs, pickA l gs)) = R := by
  have hK : grK most b (pickA l gs) = q := grK_some (by simpa using hq) (fun x hx => by
    rw [← List.map_take] at hx
    obtain ⟨y, hy, rfl⟩ := List.mem_map.1 hx
    exact h1 y hy) (fun x hx => by
    rw [List.getElem?_map] at hx
    obtain ⟨y, hy, rfl⟩ := Option.map_eq_some_iff.1 hx
    exact h2 y hy)
  rw [groupL_at hx, show grStep most k b (gs, pickA l gs) = grPut q k b (gs, pickA l gs) by unfold grStep grGrow; simp only [hK]; rw [if_pos (by simpa using hq)]] at hpk
  exact hpk
theorem rg_new {most : Int} {l : List Bun} {gs : List (List Int)} {R : GSt} {k : Nat} {b : Bun} (hx : l[k]? = some b) (hpk : groupL most (l.drop k) k (gs, pickA l gs) = R) (h1 : ∀ x ∈ gs, fitB most b (pick l x) = false) :
    groupL most (l.drop (k + 1)) (k + 1) (grPut gs.length k b (gs ++ [[]], pickA l (gs ++ [[]]))) = R := by
  have hK : grK most b (pickA l gs) = gs.length := by
    rw [grK_none (fun x hx => by obtain ⟨y, hy, rfl⟩ := List.mem_map.1 hx; exact h1 y hy)]
    simp
  rw [groupL_at hx, show grStep most k b (gs, pickA l gs) = grPut gs.length k b (gs ++ [[]], pickA l (gs ++ [[]])) by unfold grStep grGrow; simp only [hK]; rw [if_neg (by simp)]; simp [pick]] at hpk
  exact hpk
/-- the indices of the groups are those of bundles before k -/
def Idx (gs : List (List Int)) (k : Nat) : Prop := ∀ g ∈ gs, ∀ i ∈ g, 0 ≤ i ∧ i < (k : Int)
theorem Idx.put {gs : List (List Int)} {k q : Nat} {g : List Int} (h : Idx gs k) (hg : gs[q]? = some g) : Idx (gs.set q (g ++ [(k : Int)])) (k + 1) := by
  intro y hy i hi
  rcases List.mem_or_eq_of_mem_set hy with hy | rfl
  · have := h y hy i hi; omega
  · rcases List.mem_append.1 hi with hi | hi
    · have := h g (List.mem_of_getElem? hg) i hi; omega
    · simp at hi; omega
theorem Idx.push {gs : List (List Int)} {k : Nat} (h : Idx gs k) : Idx (gs ++ [[]]) k := by
  intro y hy i hi
  rcases List.mem_append.1 hy with hy | hy
  · exact h y hy i hi
  · simp at hy; subst hy; cases hi
structure QBase (w : World) (gs : List (List Int)) (vals : List Value) (s6 : Value) (wr : World) : Prop where
  out : OwnVI wr w.heap.size s6 gs vals
  below : Below w.heap.size w wr
theorem QBase.step {w : World} {gs : List (List Int)} {vals : List Value} {s6 : Value} {wr wx : World} (h : QBase w gs vals s6 wr) (k : Below wr.heap.size wr wx) : QBase w gs vals s6 wx := ⟨h.out.below k, btrans0 h.below k⟩
def QLoop (l : List Bun) (most : Int) (w : World) (R : GSt) (s6 s7 : Value) (wr : World) : Prop := ∃ (k : Nat) (gs : List (List Int)) (vals : List Value), k ≤ l.length ∧ s7 = .int .i64 k ∧ groupL most (l.drop k) k (gs, pickA l gs) = R ∧ gs.length ≤ k ∧ (∀ g ∈ gs, g.length ≤ k) ∧ Idx gs k ∧ QBase w gs vals s6 wr
/-- behind the search of a group -/
def QMid (l : List Bun) (most : Int) (w : World) (R : GSt) (k : Nat) (b : Bun) (q : Nat) (s6 : Value) (wx : World) : Prop := ∃ (gs : List (List Int)) (vals : List Value), q < gs.length ∧ groupL most (l.drop (k + 1)) (k + 1) (grPut q k b (gs, pickA l gs)) = R ∧ gs.length ≤ k + 1 ∧ (∀ g ∈ gs, g.length ≤ k) ∧ Idx gs k ∧ QBase w gs vals s6 wx
theorem qmid_new {most : Int} {l : List Bun} {gs : List (List Int)} {vals : List Value} {R : GSt} {k : Nat} {b : Bun} {w wr w5 : World} {s6 v5 : Value} {o1 : Obj} (hx : l[k]? = some b) (hpk : groupL most (l.drop k) k (gs, pickA l gs) = R) (hgk : gs.length ≤ k) (hg1 : ∀ g ∈ gs, g.length ≤ k) (hi : Idx gs k) (h1 : ∀ x ∈ gs, fitB most b (pick l x) = false)
    (hb : QBase w gs vals s6 wr) (ho5 : w5.ownsRow w.heap.size 43 1 v5 (gs.length + 1) (vals ++ [.slice none 0 0])) (hg5 : (wr.alloc o1).grownBy w5 s6.ownBlock) :
    QMid l most w R k b gs.length v5 w5 := by
  have ha1 : Below wr.heap.size wr (wr.alloc o1) := balloc0 (Below.refl _ _)
  have hb1 := hb.step ha1
  have zA := hb1.below.size
  refine ⟨gs ++ [[]], vals ++ [.slice none 0 0], by simp, rg_new hx hpk h1, by simp; omega, fun g hg => ?_, hi.push, hb1.out.push (by decide) ho5 hg5 rfl, hb1.below.grown hg5 (by omega) fun q hq => (hb1.out.1.lt q hq).1⟩
  rcases List.mem_append.1 hg with hg | hg
  · exact hg1 g hg
  · simp at hg; subst hg; simp
theorem qmid_end {most : Int} {l : List Bun} {gs : List (List Int)} {vals : List Value} {R : GSt} {k q go c6 : Nat} {b : Bun} {g : List Int} {x x' : Value} {w wr w8 : World} {o1 : Obj} (hk : k < l.length) (hl : l[k]? = some b) (hpk : groupL most (l.drop (k + 1)) (k + 1) (grPut q k b (gs, pickA l gs)) = R) (hgk : gs.length ≤ k + 1) (hg1 : ∀ g ∈ gs, g.length ≤ k) (hi : Idx gs k)
    (hb : QBase w gs vals (.slice (some ⟨go, 0, none⟩) gs.length c6) wr) (hx : vals[q]? = some x) (hg : gs[q]? = some g) (ho : w8.ownsRow w.heap.size 3 1 x' (g.length + 1) (ints g ++ [.int .i64 k])) (hg8 : (wr.alloc o1).grownBy w8 x.ownBlock) (hf : x'.ownBlock = x.ownBlock ∨ x'.ownBlock = some (wr.alloc o1).heap.size) :
    QLoop l most w R (.slice (some ⟨go, 0, none⟩) gs.length c6) (.int .i64 ((k : Int) + 1)) (w8.setCell ⟨go, q, none⟩ x') := by
  have ha1 : Below wr.heap.size wr (wr.alloc o1) := balloc0 (Below.refl _ _)
  have hb1 := hb.step ha1
  have zA := hb1.below.size
  have hO := hb1.out.put (by decide) hx hg (y := (k : Int)) (by simpa [ints] using ho) hg8 hf (Nat.le_refl _)
  have hB8 : Below w.heap.size w w8 := hb1.below.grown hg8 (by omega) fun q' hq' => (hb1.out.lt hx hq').1
  have hgo := (hb.out.1.lt go rfl).1
  refine ⟨k + 1, gs.set q (g ++ [(k : Int)]), vals.set q x', hk, by simp, ?_, by simpa using hgk, fun y hy => ?_, hi.put hg, by simpa using hO, hB8.setCell (p := ⟨go, q, none⟩) hgo _⟩
  · rw [rg_put hl hg] at hpk; exact hpk
  · rcases List.mem_or_eq_of_mem_set hy with hy | rfl
    · have := hg1 y hy; omega
    · have := hg1 g (List.mem_of_getElem? hg); simp; omega
theorem qstore {gs : List (List Int)} {vals : List Value} {q go c6 : Nat} {x : Value} {w wr w8 : World} {o1 : Obj} (hb : QBase w gs vals (.slice (some ⟨go, 0, none⟩) gs.length c6) wr) (hx : vals[q]? = some x) (hg8 : (wr.alloc o1).grownBy w8 x.ownBlock) : w8.cell? ⟨go, q, none⟩ = some x ∧ w8.frozen? ⟨go, q, none⟩ = false := by
  have hb1 := hb.step (balloc0 (Below.refl _ _) : Below wr.heap.size wr (wr.alloc o1))
  have hO8 : w8.ownsRow w.heap.size 43 1 (.slice (some ⟨go, 0, none⟩) gs.length c6) gs.length vals := own_kept1 hb1.out.1 fun q' hq' => grown_keep hg8 (hb1.out.1.lt q' hq').2 fun e => hb1.out.other (by decide) hx e hq'
  have a1 := hO8.cells (g := go) rfl q _ hx
  rw [addN, Nat.zero_add] at a1
  exact ⟨a1, hO8.frozenAt q⟩
/-- the bundles of a group so far, in a row of one's own -/
def PickRow (l : List Bun) (w : World) (g : List Int) (j : Nat) (vo : Value) (W : World) : Prop := ∃ gv : List BV, W.ownsRow w.heap.size 31 12 vo gv.length (flatU gv) ∧ buns gv = pick l (g.take j) ∧ (∀ r ∈ gv, RBlks w w.heap.size r.2 r.1.blocks) ∧ gv.length = min j g.length
theorem PickRow.nil {l : List Bun} {w W : World} {g : List Int} : PickRow l w g 0 (.slice none 0 0) W := ⟨[], World.ownsRow_nil _ _ _ _, rfl, fun r hr => by simp at hr, by simp⟩
theorem pick_snoc {l : List Bun} {g : List Int} {j i : Nat} {x : Bun} (hg : g[j]? = some (i : Int)) (hx : l[i]? = some x) : pick l (g.take (j + 1)) = pick l (g.take j) ++ [x] := by
  rw [List.take_add_one, hg]
  exact pick_append l _ i x hx
end Go.Proofs.YtpkklmkeflddkaaGreat
