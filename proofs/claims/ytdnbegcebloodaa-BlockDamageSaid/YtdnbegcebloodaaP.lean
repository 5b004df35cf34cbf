/- Blocks and bundles as plain data, what their checks answer, and how they read in memory. -/
import Derived.Test.YtdnbegcebloodaaS
set_option linter.unusedVariables false
namespace Go.Proofs.Ytdnbegcebloodaa
open Go Go.RowKit

structure Blk where
  kind : Int
  flags : Int
  data : List UInt8
structure Bun where
  src : Int
  crt : Int
  seq : Int
  off : Int
  tot : Int
  dk : Int
  dn : Int
  life : Int
  prio : Int
  flags : Int
  blocks : List Blk
  payload : List UInt8

/-- why a block is not valid -/
def blkE (x : Blk) : Int := if x.kind < 1 ∨ 255 < x.kind then 8 else if x.flags < 0 ∨ 15 < x.flags then 2 else if 1024 < x.data.length then 4 else 0
/-- the first block's error -/
def firstE : List Blk → Int
  | [] => 0
  | x :: r => if blkE x ≠ 0 then blkE x else firstE r
def ordB : List Blk → Bool
  | [] => true
  | x :: r => (match r with
    | [] => true
    | y :: _ => decide (x.kind < y.kind)) && ordB r
def blksE (l : List Blk) : Int := if 8 < l.length then 4 else if firstE l ≠ 0 then firstE l else if ordB l = true then 0 else 9
/-- a flag (a power of two) is set -/
def hasF (f k : Int) : Bool := f / k % 2 == 1
def idB (b : Bun) : Bool := decide (0 ≤ b.src ∧ b.src ≤ 15 ∧ 0 ≤ b.crt ∧ b.crt ≤ 1099511627776 ∧ 0 ≤ b.seq ∧ b.seq ≤ 1099511627776 ∧ ((b.tot = 0 ∧ b.off = 0) ∨ (1 ≤ b.tot ∧ b.tot ≤ 4096 ∧ 0 ≤ b.off ∧ b.off < b.tot)))
def idE (b : Bun) : Int := if idB b = true then 0 else 2
def endE (k n : Int) : Int := if k = 1 then (if 0 ≤ n ∧ n < 16 then 0 else 2) else if k = 2 then (if 0 ≤ n ∧ n < 8 then 0 else 2) else 8
def flB (b : Bun) : Bool := decide (0 ≤ b.flags ∧ b.flags ≤ 127) && !(hasF b.flags 4 && hasF b.flags 64) && !(decide (0 < b.tot) && hasF b.flags 2)
def flE (b : Bun) : Int := if flB b = true then 0 else 1
def payE (b : Bun) : Int := if 4096 < b.payload.length then 4 else if 0 < b.tot ∧ ¬ (1 ≤ b.payload.length ∧ (b.payload.length : Int) ≤ b.tot - b.off) then 10 else 0
/-- why a bundle is not valid -/
def chkE (b : Bun) : Int :=
  if idE b ≠ 0 then idE b else if endE b.dk b.dn ≠ 0 then endE b.dk b.dn
  else if b.life < 1 ∨ 1099511627776 - b.crt < b.life then 2 else if b.prio < 0 ∨ 2 < b.prio then 8
  else if flE b ≠ 0 then flE b else if blksE b.blocks ≠ 0 then blksE b.blocks else payE b

/-! ### In memory -/
/-- the cells of a block -/
def CBlk (w : World) (b o : Nat) (x : Blk) : Prop :=
  w.cell? ⟨b, o, none⟩ = some (.int .i64 x.kind) ∧ w.cell? ⟨b, o + 1, none⟩ = some (.int .i64 x.flags) ∧ w.cell? ⟨b, o + 2, none⟩ = some (.string (B x.data))
/-- v is a slice of the blocks l, all below N -/
def RBlks (w : World) (N : Nat) (v : Value) (l : List Blk) : Prop :=
  ∃ (a : Option Addr) (c : Nat), v = .slice a l.length c ∧ l.length ≤ c ∧ c ≤ maxLen ∧ (a = none → c = 0) ∧
    (0 < l.length → ∃ b o, a = some ⟨b, o, none⟩ ∧ b < N ∧ ∀ (i : Nat) (x : Blk), l[i]? = some x → CBlk w b (o + i * 3) x)
/-- a bundle's cells, its blocks' slice given -/
def bunC (b : Bun) (v : Value) : List Value :=
  [.int .i64 b.src, .int .i64 b.crt, .int .i64 b.seq, .int .i64 b.off, .int .i64 b.tot, .int .i64 b.dk, .int .i64 b.dn, .int .i64 b.life, .int .i64 b.prio, .int .i64 b.flags, v, .string (B b.payload)]
def RBun (w : World) (N : Nat) (v : Value) (b : Bun) : Prop := ∃ u, v = .agg (bunC b u).toArray ∧ RBlks w N u b.blocks
/-- the cells of a bundle -/
def CBun (w : World) (N b o : Nat) (x : Bun) : Prop :=
  ∃ u, (∀ (i : Nat) (v : Value), (bunC x u)[i]? = some v → w.cell? ⟨b, o + i, none⟩ = some v) ∧ RBlks w N u x.blocks
def RBuns (w : World) (N : Nat) (v : Value) (l : List Bun) : Prop :=
  ∃ (a : Option Addr) (c : Nat), v = .slice a l.length c ∧ l.length ≤ c ∧ c ≤ maxLen ∧ (a = none → c = 0) ∧
    (0 < l.length → ∃ b o, a = some ⟨b, o, none⟩ ∧ b < N ∧ ∀ (i : Nat) (x : Bun), l[i]? = some x → CBun w N b (o + i * 12) x)

theorem CBlk.keep {w w' : World} {b o : Nat} {x : Blk} (h : CBlk w b o x) (k : ∀ o, w'.cell? ⟨b, o, none⟩ = w.cell? ⟨b, o, none⟩) : CBlk w' b o x :=
  ⟨(k _).trans h.1, (k _).trans h.2.1, (k _).trans h.2.2⟩
theorem RBlks.keep {w w' : World} {N M : Nat} {v : Value} {l : List Blk} (h : RBlks w N v l) (k : ∀ b o, b < N → w'.cell? ⟨b, o, none⟩ = w.cell? ⟨b, o, none⟩) (hM : N ≤ M) : RBlks w' M v l := by
  obtain ⟨a, c, rfl, h1, h2, h3, h4⟩ := h
  refine ⟨a, c, rfl, h1, h2, h3, fun hp => ?_⟩
  obtain ⟨b, o, e, hb, hi⟩ := h4 hp
  exact ⟨b, o, e, by omega, fun i x hx => (hi i x hx).keep fun o => k b o hb⟩
theorem RBlks.below {w w' : World} {N C M : Nat} {v : Value} {l : List Blk} (h : RBlks w N v l) (k : Below C w w') (hC : N ≤ C) (hM : N ≤ M) : RBlks w' M v l :=
  h.keep (fun b o hb => k.cell (p := ⟨b, o, none⟩) (by simp; omega)) hM
theorem RBlks.nil (w : World) (N : Nat) : RBlks w N (.slice none 0 0) [] := ⟨none, 0, rfl, Nat.le_refl _, by simp, fun _ => rfl, fun h => by simp at h⟩
theorem CBun.keep {w w' : World} {N M b o : Nat} {x : Bun} (h : CBun w N b o x) (hb : b < N) (k : ∀ b o, b < N → w'.cell? ⟨b, o, none⟩ = w.cell? ⟨b, o, none⟩) (hM : N ≤ M) : CBun w' M b o x := by
  obtain ⟨u, h1, h2⟩ := h
  exact ⟨u, fun i v hv => (k _ _ hb).trans (h1 i v hv), h2.keep k hM⟩
theorem RBun.keep {w w' : World} {N M : Nat} {v : Value} {b : Bun} (h : RBun w N v b) (k : ∀ b o, b < N → w'.cell? ⟨b, o, none⟩ = w.cell? ⟨b, o, none⟩) (hM : N ≤ M) : RBun w' M v b := by
  obtain ⟨u, rfl, h⟩ := h
  exact ⟨u, rfl, h.keep k hM⟩
theorem RBuns.keep {w w' : World} {N M : Nat} {v : Value} {l : List Bun} (h : RBuns w N v l) (k : ∀ b o, b < N → w'.cell? ⟨b, o, none⟩ = w.cell? ⟨b, o, none⟩) (hM : N ≤ M) : RBuns w' M v l := by
  obtain ⟨a, c, rfl, h1, h2, h3, h4⟩ := h
  refine ⟨a, c, rfl, h1, h2, h3, fun hp => ?_⟩
  obtain ⟨b, o, e, hb, hi⟩ := h4 hp
  exact ⟨b, o, e, by omega, fun i x hx => (hi i x hx).keep hb k hM⟩
theorem RBuns.below {w w' : World} {N C M : Nat} {v : Value} {l : List Bun} (h : RBuns w N v l) (k : Below C w w') (hC : N ≤ C) (hM : N ≤ M) : RBuns w' M v l :=
  h.keep (fun b o hb => k.cell (p := ⟨b, o, none⟩) (by simp; omega)) hM
theorem RBun.below {w w' : World} {N C M : Nat} {v : Value} {b : Bun} (h : RBun w N v b) (k : Below C w w') (hC : N ≤ C) (hM : N ≤ M) : RBun w' M v b :=
  h.keep (fun b o hb => k.cell (p := ⟨b, o, none⟩) (by simp; omega)) hM

/-! ### The checks' plain laws -/
theorem blkE_cases (x : Blk) : blkE x = 0 ∨ blkE x = 8 ∨ blkE x = 2 ∨ blkE x = 4 := by
  unfold blkE
  split
  · simp
  · split
    · simp
    · split <;> simp
theorem firstE_cases : ∀ (l : List Blk), firstE l = 0 ∨ firstE l = 8 ∨ firstE l = 2 ∨ firstE l = 4
  | [] => .inl rfl
  | x :: r => by
    unfold firstE
    split
    · exact blkE_cases x
    · exact firstE_cases r
theorem firstE_zero : ∀ {l : List Blk}, firstE l = 0 → ∀ x ∈ l, blkE x = 0
  | [], _, x, hx => by simp at hx
  | y :: r, h, x, hx => by
    unfold firstE at h
    split at h
    · contradiction
    · rename_i h0
      rcases List.mem_cons.1 hx with rfl | hx
      · simpa using h0
      · exact firstE_zero h x hx
theorem blkE_zero {x : Blk} (h : blkE x = 0) : 1 ≤ x.kind ∧ x.kind ≤ 255 ∧ 0 ≤ x.flags ∧ x.flags ≤ 15 ∧ x.data.length ≤ 1024 := by
  unfold blkE at h
  split at h
  · simp at h
  · split at h
    · simp at h
    · split at h
      · simp at h
      · omega
end Go.Proofs.Ytdnbegcebloodaa
