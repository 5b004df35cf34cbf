/- Joined by port.py: XP XQ XHp XKp -/
import Derived.Test.YtmknchdciblfjaaGreatJa
import Derived.Maps.AppendAt
import Derived.Laws.OwnMore
import Derived.Deep.AppendLies
import Derived.RangeFuncBox
import Derived.RangeFuncFrom
import Derived.Laws.Rows
import Derived.Laws.Tables
import Derived.RangeFuncNested
import Derived.RangeFuncBound
import Derived.RangeFuncCalls
import Derived.RangeFuncLeaves
import Derived.WalkKit
set_option linter.unusedVariables false
set_option linter.unusedSimpArgs false
/-! XP -/
namespace Go.Proofs.YtmknchdciblfjaaGreat
open Go Go.RowKit
structure Blk where
  kind : Int
  flags : Int
  data : List UInt8
structure Bun where
  src : Int
  crt : Int
  seq : Int
  off : Int
  tot : Int
  dk : Int
  dn : Int
  life : Int
  prio : Int
  flags : Int
  blocks : List Blk
  payload : List UInt8
/-- why a block is not valid -/
def blkE (x : Blk) : Int := if x.kind < 1 ∨ 255 < x.kind then 8 else if x.flags < 0 ∨ 15 < x.flags then 2 else if 1024 < x.data.length then 4 else 0
/-- the first block's error -/
def firstE : List Blk → Int
  | [] => 0
  | x :: r => if blkE x ≠ 0 then blkE x else firstE r
def ordB : List Blk → Bool
  | [] => true
  | x :: r => (match r with
    | [] => true
    | y :: _ => decide (x.kind < y.kind)) && ordB r
def blksE (l : List Blk) : Int := if 8 < l.length then 4 else if firstE l ≠ 0 then firstE l else if ordB l = true then 0 else 9
/-- a flag (a power of two) is set -/
def hasF (f k : Int) : Bool := f / k % 2 == 1
def idB (b : Bun) : Bool := decide (0 ≤ b.src ∧ b.src ≤ 15 ∧ 0 ≤ b.crt ∧ b.crt ≤ 1099511627776 ∧ 0 ≤ b.seq ∧ b.seq ≤ 1099511627776 ∧ ((b.tot = 0 ∧ b.off = 0) ∨ (1 ≤ b.tot ∧ b.tot ≤ 4096 ∧ 0 ≤ b.off ∧ b.off < b.tot)))
def idE (b : Bun) : Int := if idB b = true then 0 else 2
def endE (k n : Int) : Int := if k = 1 then (if 0 ≤ n ∧ n < 16 then 0 else 2) else if k = 2 then (if 0 ≤ n ∧ n < 8 then 0 else 2) else 8
def flB (b : Bun) : Bool := decide (0 ≤ b.flags ∧ b.flags ≤ 127) && !(hasF b.flags 4 && hasF b.flags 64) && !(decide (0 < b.tot) && hasF b.flags 2)
def flE (b : Bun) : Int := if flB b = true then 0 else 1
def payE (b : Bun) : Int := if 4096 < b.payload.length then 4 else if 0 < b.tot ∧ ¬ (1 ≤ b.payload.length ∧ (b.payload.length : Int) ≤ b.tot - b.off) then 10 else 0
/-- why a bundle is not valid -/
def chkE (b : Bun) : Int :=
  if idE b ≠ 0 then idE b else if endE b.dk b.dn ≠ 0 then endE b.dk b.dn
  else if b.life < 1 ∨ 1099511627776 - b.crt < b.life then 2 else if b.prio < 0 ∨ 2 < b.prio then 8
  else if flE b ≠ 0 then flE b else if blksE b.blocks ≠ 0 then blksE b.blocks else payE b
/-- the cells of a block -/
def CBlk (w : World) (b o : Nat) (x : Blk) : Prop :=
  w.cell? ⟨b, o, none⟩ = some (.int .i64 x.kind) ∧ w.cell? ⟨b, o + 1, none⟩ = some (.int .i64 x.flags) ∧ w.cell? ⟨b, o + 2, none⟩ = some (.string (B x.data))
/-- v is a slice of the blocks l, all below N -/
def RBlks (w : World) (N : Nat) (v : Value) (l : List Blk) : Prop :=
  ∃ (a : Option Addr) (c : Nat), v = .slice a l.length c ∧ l.length ≤ c ∧ c ≤ maxLen ∧ (a = none → c = 0) ∧
    (0 < l.length → ∃ b o, a = some ⟨b, o, none⟩ ∧ b < N ∧ ∀ (i : Nat) (x : Blk), l[i]? = some x → CBlk w b (o + i * 3) x)
/-- a bundle's cells, its blocks' slice given -/
def bunC (b : Bun) (v : Value) : List Value :=
  [.int .i64 b.src, .int .i64 b.crt, .int .i64 b.seq, .int .i64 b.off, .int .i64 b.tot, .int .i64 b.dk, .int .i64 b.dn, .int .i64 b.life, .int .i64 b.prio, .int .i64 b.flags, v, .string (B b.payload)]
def RBun (w : World) (N : Nat) (v : Value) (b : Bun) : Prop := ∃ u, v = .agg (bunC b u).toArray ∧ RBlks w N u b.blocks
/-- the cells of a bundle -/
def CBun (w : World) (N b o : Nat) (x : Bun) : Prop :=
  ∃ u, (∀ (i : Nat) (v : Value), (bunC x u)[i]? = some v → w.cell? ⟨b, o + i, none⟩ = some v) ∧ RBlks w N u x.blocks
def RBuns (w : World) (N : Nat) (v : Value) (l : List Bun) : Prop :=
  ∃ (a : Option Addr) (c : Nat), v = .slice a l.length c ∧ l.length ≤ c ∧ c ≤ maxLen ∧ (a = none → c = 0) ∧
    (0 < l.length → ∃ b o, a = some ⟨b, o, none⟩ ∧ b < N ∧ ∀ (i : Nat) (x : Bun), l[i]? = some x → CBun w N b (o + i * 12) x)
theorem CBlk.keep {w w' : World} {b o : Nat} {x : Blk} (h : CBlk w b o x) (k : ∀ o, w'.cell? ⟨b, o, none⟩ = w.cell? ⟨b, o, none⟩) : CBlk w' b o x :=
  ⟨(k _).trans h.1, (k _).trans h.2.1, (k _).trans h.2.2⟩
theorem RBlks.keep {w w' : World} {N M : Nat} {v : Value} {l : List Blk} (h : RBlks w N v l) (k : ∀ b o, b < N → w'.cell? ⟨b, o, none⟩ = w.cell? ⟨b, o, none⟩) (hM : N ≤ M) : RBlks w' M v l := by
  obtain ⟨a, c, rfl, h1, h2, h3, h4⟩ := h
  refine ⟨a, c, rfl, h1, h2, h3, fun hp => ?_⟩
  obtain ⟨b, o, e, hb, hi⟩ := h4 hp
  exact ⟨b, o, e, by omega, fun i x hx => (hi i x hx).keep fun o => k b o hb⟩
theorem RBlks.below {w w' : World} {N C M : Nat} {v : Value} {l : List Blk} (h : RBlks w N v l) (k : Below C w w') (hC : N ≤ C) (hM : N ≤ M) : RBlks w' M v l :=
  h.keep (fun b o hb => k.cell (p := ⟨b, o, none⟩) (by simp; omega)) hM
theorem RBlks.nil (w : World) (N : Nat) : RBlks w N (.slice none 0 0) [] := ⟨none, 0, rfl, Nat.le_refl _, by simp, fun _ => rfl, fun h => by simp at h⟩
theorem CBun.keep {w w' : World} {N M b o : Nat} {x : Bun} (h : CBun w N b o x) (hb : b < N) (k : ∀ b o, b < N → w'.cell? ⟨b, o, none⟩ = w.cell? ⟨b, o, none⟩) (hM : N ≤ M) : CBun w' M b o x := by
  obtain ⟨u, h1, h2⟩ := h
  exact ⟨u, fun i v hv => (k _ _ hb).trans (h1 i v hv), h2.keep k hM⟩
theorem RBun.keep {w w' : World} {N M : Nat} {v : Value} {b : Bun} (h : RBun w N v b) (k : ∀ b o, b < N → w'.cell? ⟨b, o, none⟩ = w.cell? ⟨b, o, none⟩) (hM : N ≤ M) : RBun w' M v b := by
  obtain ⟨u, rfl, h⟩ := h
  exact ⟨u, rfl, h.keep k hM⟩
theorem RBuns.keep {w w' : World} {N M : Nat} {v : Value} {l : List Bun} (h : RBuns w N v l) (k : ∀ b o, b < N → w'.cell? ⟨b, o, none⟩ = w.cell? ⟨b, o, none⟩) (hM : N ≤ M) : RBuns w' M v l := by
  obtain ⟨a, c, rfl, h1, h2, h3, h4⟩ := h
  refine ⟨a, c, rfl, h1, h2, h3, fun hp => ?_⟩
  obtain ⟨b, o, e, hb, hi⟩ := h4 hp
  exact ⟨b, o, e, by omega, fun i x hx => (hi i x hx).keep hb k hM⟩
theorem RBuns.below {w w' : World} {N C M : Nat} {v : Value} {l : List Bun} (h : RBuns w N v l) (k : Below C w w') (hC : N ≤ C) (hM : N ≤ M) : RBuns w' M v l :=
  h.keep (fun b o hb => k.cell (p := ⟨b, o, none⟩) (by simp; omega)) hM
theorem RBun.below {w w' : World} {N C M : Nat} {v : Value} {b : Bun} (h : RBun w N v b) (k : Below C w w') (hC : N ≤ C) (hM : N ≤ M) : RBun w' M v b :=
  h.keep (fun b o hb => k.cell (p := ⟨b, o, none⟩) (by simp; omega)) hM
theorem firstE_zero : ∀ {l : List Blk}, firstE l = 0 → ∀ x ∈ l, blkE x = 0
  | [], _, x, hx => by simp at hx
  | y :: r, h, x, hx => by
    unfold firstE at h
    split at h
    · contradiction
    · rename_i h0
      rcases List.mem_cons.1 hx with rfl | hx
      · simpa using h0
      · exact firstE_zero h x hx
theorem blkE_zero {x : Blk} (h : blkE x = 0) : 1 ≤ x.kind ∧ x.kind ≤ 255 ∧ 0 ≤ x.flags ∧ x.flags ≤ 15 ∧ x.data.length ≤ 1024 := by
  unfold blkE at h
  split at h
  · simp at h
  · split at h
    · simp at h
    · split at h
      · simp at h
      · omega
end Go.Proofs.YtmknchdciblfjaaGreat
/-! XQ -/
namespace Go.Proofs.YtmknchdciblfjaaGreat
open Go Go.RowKit
theorem flat_get {α : Type} (enc : α → List Value) (s : Nat) (hs : ∀ x, (enc x).length = s) : ∀ (l : List α) (i k : Nat), k < s → (l.flatMap enc)[i * s + k]? = (l[i]?).bind fun x => (enc x)[k]?
  | [], i, k, hk => by simp
  | x :: r, 0, k, hk => by
    rw [List.flatMap_cons, Nat.zero_mul, Nat.zero_add, List.getElem?_append_left (by rw [hs]; exact hk)]; simp
  | x :: r, i + 1, k, hk => by
    rw [List.flatMap_cons, List.getElem?_append_right (by rw [hs, Nat.succ_mul]; omega), hs]
    rw [show (i + 1) * s + k - s = i * s + k by rw [Nat.succ_mul]; omega, flat_get enc s hs r i k hk]; simp
theorem flat_len {α : Type} (enc : α → List Value) (s : Nat) (hs : ∀ x, (enc x).length = s) (l : List α) : (l.flatMap enc).length = l.length * s := by
  induction l with
  | nil => simp
  | cons x r ih => rw [List.flatMap_cons, List.length_append, hs, ih, List.length_cons, Nat.succ_mul]; omega
theorem flat_cell {α : Type} (enc : α → List Value) (s : Nat) (h0 : 0 < s) (hs : ∀ x, (enc x).length = s) {l : List α} {j : Nat} {u : Value} (h : (l.flatMap enc)[j]? = some u) : ∃ i k x, j = i * s + k ∧ k < s ∧ l[i]? = some x ∧ (enc x)[k]? = some u := by
  have e : j = j / s * s + j % s := by rw [Nat.mul_comm]; exact (Nat.div_add_mod j s).symm
  have hk := Nat.mod_lt j h0
  rw [e, flat_get enc s hs l _ _ hk] at h
  cases hx : l[j / s]? with
  | none => rw [hx] at h; simp at h
  | some x => rw [hx] at h; exact ⟨_, _, x, e, hk, hx, h⟩
theorem addN (b o j : Nat) : (⟨b, o, none⟩ : Addr).add j = ⟨b, o + j, none⟩ := by
  unfold Addr.add; split
  · rename_i h; simp [h]
  · simp
def blkC (x : Blk) : List Value := [.int .i64 x.kind, .int .i64 x.flags, .string (B x.data)]
theorem blkC_len (x : Blk) : (blkC x).length = 3 := rfl
theorem bunC_len (x : Bun × Value) : (bunC x.1 x.2).length = 12 := rfl
theorem CBlk_iff {w : World} {b o : Nat} {x : Blk} : CBlk w b o x ↔ ∀ k u, (blkC x)[k]? = some u → w.cell? ⟨b, o + k, none⟩ = some u := by
  constructor
  · rintro ⟨h1, h2, h3⟩ k u hu
    match k, hu with
    | 0, hu => simp [blkC] at hu; subst hu; exact h1
    | 1, hu => simp [blkC] at hu; subst hu; exact h2
    | 2, hu => simp [blkC] at hu; subst hu; exact h3
    | k + 3, hu => simp [blkC] at hu
  · intro h
    exact ⟨h 0 _ rfl, h 1 _ rfl, h 2 _ rfl⟩
theorem blk_flat {w : World} {b o : Nat} {l : List Blk} (h : ∀ (i : Nat) (x : Blk), l[i]? = some x → CBlk w b (o + i * 3) x) {j : Nat} {u : Value} (hu : (l.flatMap blkC)[j]? = some u) : w.cell? ⟨b, o + j, none⟩ = some u := by
  obtain ⟨i, k, x, rfl, hk, hx, hv⟩ := flat_cell blkC 3 (by omega) blkC_len hu
  have := CBlk_iff.1 (h i x hx) k u hv
  rwa [Nat.add_assoc] at this
theorem blk_of_flat {w : World} {b o : Nat} {l : List Blk} (h : ∀ (j : Nat) (u : Value), (l.flatMap blkC)[j]? = some u → w.cell? ⟨b, o + j, none⟩ = some u) (i : Nat) (x : Blk) (hx : l[i]? = some x) : CBlk w b (o + i * 3) x := by
  rw [CBlk_iff]
  intro k u hu
  have hk : k < 3 := by
    rcases Nat.lt_or_ge k 3 with h | h
    · exact h
    · rw [List.getElem?_eq_none (by rw [blkC_len]; omega)] at hu; cases hu
  rw [Nat.add_assoc]
  apply h
  rw [flat_get blkC 3 blkC_len l i k hk, hx]
  exact hu
theorem blk_one (l : List Blk) : ∀ u ∈ l.flatMap blkC, u.oneCell' = true := by
  intro u hu
  obtain ⟨x, _, hx⟩ := List.mem_flatMap.1 hu
  simp [blkC] at hx
  rcases hx with rfl | rfl | rfl <;> rfl
/-- a row of the call's own that holds blocks -/
theorem RBlks.of_own {w : World} {base n : Nat} {e : TypeId} {v : Value} {l : List Blk} (h : w.ownsRow base e 3 v n (l.flatMap blkC)) : RBlks w w.heap.size v l := by
  have hl : n = l.length := by have := h.1; rw [flat_len blkC 3 blkC_len] at this; omega
  subst hl
  have hh := h
  rcases h.2 with ⟨rfl, hz⟩ | ⟨g, cap, cur, rfl, hb, hg, hn, hm, hs, ht⟩
  · have : l = [] := List.eq_nil_of_length_eq_zero hz
    subst this
    exact RBlks.nil _ _
  · have hlt : g < w.heap.size := by
      rcases Nat.lt_or_ge g w.heap.size with h | h
      · exact h
      · rw [Array.getElem?_eq_none h] at hg; cases hg
    refine ⟨_, _, rfl, hn, hm, (fun h => by cases h), fun _ => ⟨g, 0, rfl, hlt, ?_⟩⟩
    refine blk_of_flat (fun j u hu => ?_)
    have := hh.cells (g := g) rfl j u hu
    rwa [addN] at this
theorem RBlks.one {w : World} {N : Nat} {v : Value} {l : List Blk} (h : RBlks w N v l) : v.oneCell' = true := by
  obtain ⟨a, c, rfl, _⟩ := h; rfl
/-- a row of the call's own that holds bundles -/
theorem RBuns.of_own {w : World} {base n : Nat} {e : TypeId} {v : Value} {rs : List (Bun × Value)} (h : w.ownsRow base e 12 v n (rs.flatMap fun r => bunC r.1 r.2)) (hr : ∀ r ∈ rs, RBlks w w.heap.size r.2 r.1.blocks) : RBuns w w.heap.size v (rs.map (·.1)) := by
  have hl : n = rs.length := by have := h.1; rw [flat_len (fun r : Bun × Value => bunC r.1 r.2) 12 bunC_len] at this; omega
  subst hl
  have hh := h
  rcases h.2 with ⟨rfl, hz⟩ | ⟨g, cap, cur, rfl, hb, hg, hn, hm, hs, ht⟩
  · have : rs = [] := List.eq_nil_of_length_eq_zero hz
    subst this
    exact ⟨none, 0, rfl, Nat.le_refl _, by simp, fun _ => rfl, fun h => by simp at h⟩
  · have hlt : g < w.heap.size := by
      rcases Nat.lt_or_ge g w.heap.size with h | h
      · exact h
      · rw [Array.getElem?_eq_none h] at hg; cases hg
    refine ⟨some ⟨g, 0, none⟩, cap, by simp, by simpa using hn, hm, (fun h => by cases h), fun _ => ⟨g, 0, rfl, hlt, fun i x hx => ?_⟩⟩
    rw [List.getElem?_map] at hx
    cases hi : rs[i]? with
    | none => rw [hi] at hx; simp at hx
    | some r =>
      rw [hi] at hx
      simp at hx
      subst hx
      refine ⟨r.2, fun k v hv => ?_, hr r (List.mem_of_getElem? hi)⟩
      have hk : k < 12 := by
        rcases Nat.lt_or_ge k 12 with h | h
        · exact h
        · rw [List.getElem?_eq_none (by rw [bunC_len r]; omega)] at hv; cases hv
      have := hh.cells (g := g) rfl (i * 12 + k) v (by rw [flat_get (fun r : Bun × Value => bunC r.1 r.2) 12 bunC_len rs i k hk, hi]; exact hv)
      rw [addN] at this
      rwa [Nat.add_assoc]
/-- clear(s) on blocks -/
theorem run_clear3 {P : Program} (w : World) (t e : TypeId) (ht : P.underlying t = some (.slice e)) (hv : ∀ w, (zeroValue e).run P w = .ok (.agg #[.int .i64 0, .int .i64 0, .string (B [])]) w) (b o n c : Nat)
    (hc : ∀ j, j < n * 3 → (w.cell? ⟨b, o + j, none⟩).isSome = true) (hf : ∀ j, j < n * 3 → w.frozen? ⟨b, o + j, none⟩ = false) :
    ∃ cs : List Value, cs.length = n * 3 ∧ ∀ ty, (Builtin.clear_ #[t] ty #[.slice (some ⟨b, o, none⟩) n c]).run P w = .ok (.tuple #[]) (w.setCells b o cs) := by
  rcases Nat.eq_zero_or_pos n with rfl | hn
  · exact ⟨[], rfl, fun ty => by simp [Builtin.clear_, run_underlying ht, World.setCells]⟩
  · obtain ⟨cs, hcs⟩ : ∃ cs, (Builtin.zeroCells #[.int .i64 0, .int .i64 0, .string (B [])] n).toList = cs := ⟨_, rfl⟩
    have hl : cs.length = n * 3 := by rw [← hcs]; simp [Builtin.zeroCells, Nat.mul_comm]
    have h1 : ∀ u ∈ cs, u.oneCell' = true := by
      intro u hu
      rw [← hcs] at hu
      simp [Builtin.zeroCells] at hu
      obtain ⟨i, _, rfl⟩ := hu
      have : i % 3 < 3 := Nat.mod_lt _ (by omega)
      rcases (show i % 3 = 0 ∨ i % 3 = 1 ∨ i % 3 = 2 by omega) with h | h | h <;> simp [h] <;> rfl
    have hst := run_storeCells_cells (P := P) b o cs 0 w (by rw [hl]; simpa using hc) (by rw [hl]; simpa using hf) h1
    simp only [Nat.add_zero] at hst
    obtain ⟨m, rfl⟩ : ∃ m, n = m + 1 := ⟨n - 1, by omega⟩
    refine ⟨cs, hl, fun ty => ?_⟩
    have hz : (Value.agg #[.int .i64 0, .int .i64 0, .string (B [])]).cells = #[.int .i64 0, .int .i64 0, .string (B [])] := rfl
    simp [Builtin.clear_, run_underlying ht, hv, hz, hcs, hst]
/-- a block stored as the q-th element of row g -/
def putB (w : World) (g q : Nat) (x : Blk) : World :=
  ((w.setCell ⟨g, q * 3, none⟩ (.int .i64 x.kind)).setCell ⟨g, q * 3 + 1, none⟩ (.int .i64 x.flags)).setCell ⟨g, q * 3 + 2, none⟩ (.string (B x.data))
theorem ne_off {g a b : Nat} (h : a ≠ b) : (⟨g, a, none⟩ : Addr) ≠ ⟨g, b, none⟩ := fun e => h (by injection e)
theorem putB_other {w : World} {g q o : Nat} {x : Blk} (h : o < q * 3 ∨ q * 3 + 3 ≤ o) : (putB w g q x).cell? ⟨g, o, none⟩ = w.cell? ⟨g, o, none⟩ := by
  unfold putB
  rw [World.cell?_setCell_other _ _ _ _ (ne_off (by omega)), World.cell?_setCell_other _ _ _ _ (ne_off (by omega)), World.cell?_setCell_other _ _ _ _ (ne_off (by omega))]
theorem putB_same {w : World} {g q : Nat} {x : Blk} (h : ∀ k, k < 3 → (w.cell? ⟨g, q * 3 + k, none⟩).isSome = true) : CBlk (putB w g q x) g (q * 3) x := by
  have h0 := h 0 (by omega)
  have h1 := h 1 (by omega)
  have h2 := h 2 (by omega)
  unfold putB
  refine ⟨?_, ?_, ?_⟩
  · rw [World.cell?_setCell_other _ _ _ _ (ne_off (by omega)), World.cell?_setCell_other _ _ _ _ (ne_off (by omega))]
    exact World.cell?_setCell_same' _ _ _ h0
  · rw [World.cell?_setCell_other _ _ _ _ (ne_off (by omega))]
    exact World.cell?_setCell_same' _ _ _ (by rw [World.cell?_setCell_other _ _ _ _ (ne_off (by omega))]; exact h1)
  · exact World.cell?_setCell_same' _ _ _ (by rw [World.cell?_setCell_other _ _ _ _ (ne_off (by omega)), World.cell?_setCell_other _ _ _ _ (ne_off (by omega))]; exact h2)
theorem putB_some {w : World} {g q o : Nat} {x : Blk} (h : ∀ k, k < 3 → (w.cell? ⟨g, q * 3 + k, none⟩).isSome = true) (ho : (w.cell? ⟨g, o, none⟩).isSome = true) : ((putB w g q x).cell? ⟨g, o, none⟩).isSome = true := by
  by_cases hq : o < q * 3 ∨ q * 3 + 3 ≤ o
  · rw [putB_other hq]; exact ho
  · obtain ⟨c1, c2, c3⟩ := putB_same (x := x) h
    rcases (show o = q * 3 ∨ o = q * 3 + 1 ∨ o = q * 3 + 2 by omega) with rfl | rfl | rfl
    · rw [c1]; rfl
    · rw [c2]; rfl
    · rw [c3]; rfl
theorem putB_frozen (w : World) (g q o : Nat) (x : Blk) : (putB w g q x).frozen? ⟨g, o, none⟩ = w.frozen? ⟨g, o, none⟩ := by
  unfold putB; rw [World.frozen?_setCell, World.frozen?_setCell, World.frozen?_setCell]
theorem putB_below {w0 w : World} {B g : Nat} (q : Nat) (x : Blk) (h : Below B w0 w) (hg : B ≤ g) : Below B w0 (putB w g q x) :=
  ((h.setCell (p := ⟨g, _, none⟩) hg _).setCell (p := ⟨g, _, none⟩) hg _).setCell (p := ⟨g, _, none⟩) hg _
theorem putB_size (w : World) (g q : Nat) (x : Blk) : (putB w g q x).heap.size = w.heap.size := by simp [putB]
theorem below_setCells {B b : Nat} {a : World} (hb : B ≤ b) : ∀ (vs : List Value) (o : Nat) (w : World), Below B a w → Below B a (w.setCells b o vs)
  | [], o, w, h => h
  | v :: vs, o, w, h => below_setCells hb vs (o + 1) _ (h.setCell (p := ⟨b, o, none⟩) hb v)
/-- the slice's row lies from block N on -/
def RFrom (N : Nat) (v : Value) : Prop := ∀ (a : Addr) (n c : Nat), v = .slice (some a) n c → N ≤ a.block
theorem RFrom.nil (N : Nat) : RFrom N (.slice none 0 0) := fun a n c h => by injection h with h; cases h
theorem RFrom.of_own {w : World} {base n size : Nat} {e : TypeId} {v : Value} {xs : List Value} (h : w.ownsRow base e size v n xs) : RFrom base v := fun a n c hv => (h.lt a.block (by rw [hv]; rfl)).1
theorem RFrom.mono {N M : Nat} {v : Value} (h : RFrom N v) (hM : M ≤ N) : RFrom M v := fun a n c e => Nat.le_trans hM (h a n c e)
theorem RBlks.keepFrom {w w' : World} {N M L : Nat} {v : Value} {l : List Blk} (h : RBlks w N v l) (hv : RFrom L v) (k : ∀ b o, L ≤ b → b < N → w'.cell? ⟨b, o, none⟩ = w.cell? ⟨b, o, none⟩) (hM : N ≤ M) : RBlks w' M v l := by
  obtain ⟨a, c, rfl, h1, h2, h3, h4⟩ := h
  refine ⟨a, c, rfl, h1, h2, h3, fun hp => ?_⟩
  obtain ⟨b, o, e, hb, hi⟩ := h4 hp
  exact ⟨b, o, e, by omega, fun i x hx => (hi i x hx).keep fun o => k b o (by subst e; exact hv _ _ _ rfl) hb⟩
theorem news_one {W : World} {g : Nat} {t : TypeId} {cs : List Value} (h : W.heap[g]? = some (.cells cs.toArray t (0, 0))) : ∀ j u, cs[j]? = some u → W.cell? ((⟨g, 0, none⟩ : Addr).add j) = some u := by
  intro j u hu
  rw [addN, Nat.zero_add]
  have := cell_of_row W g j cs.toArray t (0, 0) h
  rw [this]; simpa using hu
theorem blkC_one (x : Blk) : ∀ u ∈ blkC x, u.oneCell' = true := by
  intro u hu
  simp [blkC] at hu
  rcases hu with rfl | rfl | rfl <;> rfl
theorem heap_new {W : World} {o : Obj} : (W.alloc o).heap[W.heap.size]? = some o := heap_alloc_new W o
theorem heap_new' {W : World} {o : Obj} {k : Nat} (hk : k = W.heap.size) : (W.alloc o).heap[k]? = some o := by subst hk; exact heap_alloc_new W o
theorem ownsRow_new {W : World} {e : TypeId} {size base g : Nat} (hg : g = W.heap.size) (hb : base ≤ g) : (W.alloc (.cells #[] e)).ownsRow base e size (.slice (some ⟨g, 0, none⟩) 0 0) 0 [] := by
  subst hg; exact World.ownsRow_made W #[] 0 hb (Nat.zero_le _) (by simp)
/-- a bundle's zero value, its cells -/
def bun0 : Array Value := #[.int .i64 0, .int .i64 0, .int .i64 0, .int .i64 0, .int .i64 0, .int .i64 0, .int .i64 0, .int .i64 0, .int .i64 0, .int .i64 0, .slice none 0 0, .string ⟨#[]⟩]
/-- v is a slice of the blocks l, in a block of which D holds -/
def RBlksD (w : World) (D : Nat → Prop) (v : Value) (l : List Blk) : Prop :=
  ∃ (a : Option Addr) (c : Nat), v = .slice a l.length c ∧ l.length ≤ c ∧ c ≤ maxLen ∧ (a = none → c = 0) ∧
    (0 < l.length → ∃ b o, a = some ⟨b, o, none⟩ ∧ D b ∧ ∀ (i : Nat) (x : Blk), l[i]? = some x → CBlk w b (o + i * 3) x)
/-- old (below N), or made in the call from w on -/
def OldNew (N : Nat) (w w' : World) (b : Nat) : Prop := b < N ∨ (w.heap.size ≤ b ∧ b < w'.heap.size)
theorem RBlksD.keep {w w' : World} {D D' : Nat → Prop} {v : Value} {l : List Blk} (h : RBlksD w D v l) (k : ∀ b o, D b → w'.cell? ⟨b, o, none⟩ = w.cell? ⟨b, o, none⟩) (hD : ∀ b, D b → D' b) : RBlksD w' D' v l := by
  obtain ⟨a, c, rfl, h1, h2, h3, h4⟩ := h
  refine ⟨a, c, rfl, h1, h2, h3, fun hp => ?_⟩
  obtain ⟨b, o, e, hb, hi⟩ := h4 hp
  exact ⟨b, o, e, hD b hb, fun i x hx => (hi i x hx).keep fun o => k b o hb⟩
theorem RBlksD.of {w : World} {N : Nat} {v : Value} {l : List Blk} (h : RBlks w N v l) : RBlksD w (· < N) v l := h
theorem RBlksD.to {w : World} {N : Nat} {D : Nat → Prop} {v : Value} {l : List Blk} (h : RBlksD w D v l) (hD : ∀ b, D b → b < N) : RBlks w N v l := h.keep (fun _ _ _ => rfl) hD
theorem RBlksD.old {w w' : World} {N C : Nat} {v : Value} {l : List Blk} (h : RBlks w N v l) (k : Below C w w') (hC : N ≤ C) (w0 : World) : RBlksD w' (OldNew N w0 w') v l :=
  (RBlksD.of h).keep (fun b o hb => k.cell (p := ⟨b, o, none⟩) (by simp; omega)) fun b hb => .inl hb
theorem RBlksD.new_ {w w' w0 : World} {N M L : Nat} {v : Value} {l : List Blk} (h : RBlks w M v l) (hv : RFrom L v) (k : ∀ b o, L ≤ b → b < M → w'.cell? ⟨b, o, none⟩ = w.cell? ⟨b, o, none⟩) (hL : w0.heap.size ≤ L) (hM : M ≤ w'.heap.size) : RBlksD w' (OldNew N w0 w') v l := by
  obtain ⟨a, c, rfl, h1, h2, h3, h4⟩ := h
  refine ⟨a, c, rfl, h1, h2, h3, fun hp => ?_⟩
  obtain ⟨b, o, e, hb, hi⟩ := h4 hp
  have hLb : L ≤ b := by subst e; exact hv _ _ _ rfl
  exact ⟨b, o, e, .inr ⟨by omega, by omega⟩, fun i x hx => (hi i x hx).keep fun o => k b o hLb hb⟩
theorem RBlksD.bnd {w0 w w' : World} {N : Nat} {v : Value} {l : List Blk} (h : RBlksD w (OldNew N w0 w') v l) (hN : N ≤ w'.heap.size) : RBlks w w'.heap.size v l := h.to fun b hb => by rcases hb with hb | hb <;> omega
theorem RBlksD.nil (w : World) (D : Nat → Prop) : RBlksD w D (.slice none 0 0) [] := ⟨none, 0, rfl, Nat.le_refl _, by simp, fun _ => rfl, fun h => by simp at h⟩
end Go.Proofs.YtmknchdciblfjaaGreat
/-! XHp -/
namespace Go.Proofs.YtmknchdciblfjaaGreat
open Go Go.RowKit
theorem cellB {w : World} {g : Nat} {t : TypeId} {cs : Array Value} (h : w.heap[g]? = some (.cells cs t (0, 0))) (o : Nat) : w.cell? ⟨g, o, none⟩ = cs[o]? := cell_of_row w g o cs t (0, 0) h
theorem frozenB {w : World} {g : Nat} {t : TypeId} {cs : Array Value} (h : w.heap[g]? = some (.cells cs t (0, 0))) (o : Nat) : w.frozen? ⟨g, o, none⟩ = false := by simp [World.frozen?, h]
theorem setB {w : World} {g : Nat} {t : TypeId} {cs : Array Value} (h : w.heap[g]? = some (.cells cs t (0, 0))) (o : Nat) (u : Value) : (w.setCell ⟨g, o, none⟩ u).heap[g]? = some (.cells (cs.setIfInBounds o u) t (0, 0)) := by
  simp [World.setCell, Array.getElem?_modify, h]
/-- a growth whose row is no block of cells keeps every block of cells -/
theorem ownC {A B' : World} {row : Option Nat} {Pr : Nat → Prop} (hg : A.grownBy B' row) (hr : ∀ r, row = some r → Pr r ∧ ∃ o : Obj, A.heap[r]? = some o ∧ o.isCells = false) (q : Nat) (cs : Array Value) (e : TypeId) (f : Nat × Nat) (hq : A.heap[q]? = some (.cells cs e f)) : B'.heap[q]? = A.heap[q]? := by
  have hlt : q < A.heap.size := by
    rcases Nat.lt_or_ge q A.heap.size with h | h
    · exact h
    · rw [Array.getElem?_eq_none h] at hq; cases hq
  refine hg.block q hlt (fun e' => ?_)
  obtain ⟨_, o, ho, hc⟩ := hr q e'.symm
  rw [hq] at ho
  injection ho with ho
  subst ho
  cases hc
theorem own_kept {W W' : World} {base : Nat} {e : TypeId} {size n : Nat} {v : Value} {xs : List Value} (h : W.ownsRow base e size v n xs) (k : ∀ q, base ≤ q → ∀ cs e f, W.heap[q]? = some (.cells cs e f) → W'.heap[q]? = W.heap[q]?) : W'.ownsRow base e size v n xs :=
  ⟨h.1, h.2.imp id fun ⟨g, cap, cur, hv, hb, hg, r⟩ => ⟨g, cap, cur, hv, hb, by rw [k g hb _ _ _ hg]; exact hg, r⟩⟩
theorem own_cells {W : World} {base : Nat} {e : TypeId} {size n : Nat} {v : Value} {xs : List Value} (h : W.ownsRow base e size v n xs) : ∀ q, v.ownBlock = some q → ∃ cs, W.heap[q]? = some (.cells cs e (0, 0)) := by
  intro q hq
  rcases h.2 with ⟨rfl, _⟩ | ⟨g, cap, cur, rfl, _, hg, _⟩
  · cases hq
  · have : g = q := Option.some.inj hq
    subst this
    exact ⟨cur, hg⟩
/-- the cells of a row that is owned -/
theorem own_get {W : World} {base : Nat} {e : TypeId} {size n : Nat} {v : Value} {xs : List Value} (h : W.ownsRow base e size v n xs) {a : Addr} {m c : Nat} (hv : v = .slice (some a) m c) {j : Nat} {u : Value} (hj : xs[j]? = some u) : W.cell? (a.add j) = some u := by
  rcases h.2 with ⟨h1, _⟩ | ⟨g, cap, cur, h1, _, hg, _, _, _, hx⟩
  · rw [h1] at hv; cases hv
  · rw [h1] at hv
    injection hv with hv _ _
    injection hv with hv
    subst hv
    rw [← hx] at hj
    show W.cell? ((⟨g, 0, none⟩ : Addr).add j) = _
    have : (⟨g, 0, none⟩ : Addr).add j = ⟨g, j, none⟩ := by unfold Addr.add; split <;> simp_all
    rw [this, cellB hg]
    rw [List.getElem?_take] at hj
    split at hj
    · simpa using hj
    · cases hj
end Go.Proofs.YtmknchdciblfjaaGreat
/-! XKp -/
namespace Go.Proofs.YtmknchdciblfjaaGreat
open Go Go.RowKit
/-- what a round keeps: all that lay below n₀, but block z -/
def KpX (n₀ z : Nat) (A B : World) : Prop := A.heap.size ≤ B.heap.size ∧ ∀ k, k < n₀ → k ≠ z → B.heap[k]? = A.heap[k]?
theorem KpX.refl (n₀ z : Nat) (A : World) : KpX n₀ z A A := ⟨Nat.le_refl _, fun _ _ _ => rfl⟩
theorem KpX.trans {n₀ z : Nat} {A B C : World} (h : KpX n₀ z A B) (k : KpX n₀ z B C) : KpX n₀ z A C := ⟨Nat.le_trans h.1 k.1, fun q h1 h2 => (k.2 q h1 h2).trans (h.2 q h1 h2)⟩
theorem KpX.drew {n₀ z : Nat} {A B : World} (h : KpX n₀ z A B) : KpX n₀ z A B.drew := h
theorem KpX.cell {n₀ z : Nat} {A B : World} {p : Addr} (h : KpX n₀ z A B) (h1 : p.block < n₀) (h2 : p.block ≠ z) : B.cell? p = A.cell? p := World.cell?_of_block (h.2 _ h1 h2)
theorem KpX.putObj {n₀ z l : Nat} (W : World) (o : Obj) (h : n₀ ≤ l) : KpX n₀ z W (W.putObj l o) :=
  ⟨(grownBy_putObj' W l o).size, fun k hk _ => by
    rcases Nat.lt_or_ge k W.heap.size with hlt | hge
    · exact (grownBy_putObj' W l o).block k hlt (fun e => by injection e with e; omega)
    · have : (W.putObj l o).heap.size = W.heap.size := by simp [World.putObj]
      rw [Array.getElem?_eq_none hge, Array.getElem?_eq_none (by omega)]⟩
end Go.Proofs.YtmknchdciblfjaaGreat
