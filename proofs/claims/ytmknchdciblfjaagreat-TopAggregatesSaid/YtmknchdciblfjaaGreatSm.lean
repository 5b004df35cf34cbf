/- Joined by port.py: XSm -/
import Derived.Test.YtmknchdciblfjaaGreatSkz
import Derived.Test.YtmknchdciblfjaaGreatSez
import Derived.Test.YtmknchdciblfjaaGreatJa
import Derived.Test.YtmknchdciblfjaaGreatJb
import Derived.Test.YtmknchdciblfjaaGreatJh
import Derived.Test.YtmknchdciblfjaaGreatJm
import Derived.Test.YtmknchdciblfjaaGreatJo
import Derived.Test.YtmknchdciblfjaaGreatJp
import Derived.Test.YtmknchdciblfjaaGreatKaz
import Derived.Test.YtmknchdciblfjaaGreatSb
import Derived.Test.YtmknchdciblfjaaGreatSz
import Derived.Test.YtmknchdciblfjaaGreatSh
import Derived.Test.YtmknchdciblfjaaGreatSi
set_option linter.unusedVariables false
set_option linter.unusedSimpArgs false
/-! XSm -/
namespace Go.Proofs.YtmknchdciblfjaaGreat
open Go Go.RowKit Iv
attribute [local go_sem] Oper.semAt_some
attribute [local go_sem] B_getElem B_size B_app B_extract B_get B_toList
theorem RBlks.up {w w' : World} {v : Value} {l : List Blk} (h : RBlks w w.heap.size v l) (k : Below w.heap.size w w') : RBlks w' w'.heap.size v l := h.below k (Nat.le_refl _) k.size
structure Par where
  head : Bun
  known : List Sp
  data : List UInt8
def parC (p : Par) (ub uk : Value) : List Value := bunC p.head ub ++ [uk, .string (B p.data)]
def zPar : Par := ⟨zBun, [], []⟩
def ParPost (N : Nat) (r : Par × Int) (w : World) (e : Ending) (w' : World) : Prop := ∃ ub uk, e = .returned (.tuple #[.agg (parC r.1 ub uk).toArray, .int .i64 r.2]) ∧ RBlksD w' (OldNew N w w') ub r.1.head.blocks ∧ RSps w' w'.heap.size uk r.1.known ∧ RFrom w.heap.size uk ∧ Below w.heap.size w w'
theorem RBlks.wide {w : World} {N M : Nat} {v : Value} {l : List Blk} (h : RBlks w N v l) (k : N ≤ M) : RBlks w M v l := h.keep (fun _ _ _ => rfl) k
/-- a fragment's bundle without what is its own -/
def headB (b : Bun) : Bun := ⟨b.src, b.crt, b.seq, 0, 0, b.dk, b.dn, b.life, b.prio, b.flags, if 0 < b.off then copyB b.blocks else b.blocks, []⟩
def newD (b : Bun) : List UInt8 := writeS (List.replicate b.tot.toNat 0) b
def newP (b : Bun) : Par × Int := if chkE b ≠ 0 then (zPar, 1) else if ¬ 0 < b.tot then (zPar, 19) else (⟨headB b, [spanB b], newD b⟩, 0)
def eqKK (x y : Blk) : Bool := decide (x.kind = y.kind) && decide (x.flags = y.flags) && decide (x.data = y.data)
theorem eqKK_iff {x y : Blk} : eqKK x y = true ↔ x = y := by
  cases x; cases y
  simp [eqKK, and_assoc]
def eqBs : List Blk → List Blk → Bool
  | [], [] => true
  | x :: r, y :: s => eqKK x y && eqBs r s
  | _, _ => false
theorem eqBs_iff : ∀ {l m : List Blk}, eqBs l m = true ↔ l = m
  | [], [] => by simp [eqBs]
  | x :: r, y :: s => by simp [eqBs, eqKK_iff, eqBs_iff]
  | [], y :: s => by simp [eqBs]
  | x :: r, [] => by simp [eqBs]
def rngBad (l : List Sp) (n : Int) : Bool := match l[0]?, l[l.length - 1]? with
  | some x, some y => decide (x.1 < 0) || decide (n < y.2)
  | _, _ => true
def fromS (l : List Sp) : Int := match l[0]? with
  | some x => x.1
  | none => 0
def dataBad (d : List UInt8) (l : List Sp) : Bool := (List.range d.length).any fun i => (d.getD i 0 != 0) && !inS l i
/-- why a partial bundle is not valid -/
def chkP (p : Par) : Int := if chkE p.head ≠ 0 ∨ 0 < p.head.tot ∨ p.head.payload ≠ [] ∨ hasF p.head.flags 2 = true then 1
  else if p.data.length < 1 ∨ 4096 < p.data.length then 4 else if chkSp p.known ≠ 0 then chkSp p.known else if rngBad p.known p.data.length = true then 2
  else if dataBad p.data p.known = true then 10 else if 0 < fromS p.known ∧ (copyB p.head.blocks).length ≠ p.head.blocks.length then 10 else 0
def belB (p : Par) (b : Bun) : Bool := decide (p.head.src = b.src ∧ p.head.crt = b.crt ∧ p.head.seq = b.seq ∧ p.head.dk = b.dk ∧ p.head.dn = b.dn ∧ p.head.life = b.life ∧ p.head.prio = b.prio ∧ p.head.flags = b.flags ∧ b.tot = p.data.length) && eqBs (copyB p.head.blocks) (copyB b.blocks)
def agrD (p : Par) (b : Bun) : Bool := (List.range b.payload.length).all fun i => !inS p.known (b.off + i) || (p.data.getD (b.off.toNat + i) 0 == b.payload.getD i 0)
def agrB (p : Par) (b : Bun) : Bool := agrD p b && (decide (0 < b.off) || decide (0 < fromS p.known) || eqBs p.head.blocks b.blocks)
def addP (p : Par) (b : Bun) : Par × Int := if chkP p ≠ 0 ∨ chkE b ≠ 0 then (zPar, 1) else if ¬ 0 < b.tot then (zPar, 19) else if belB p b = false then (zPar, 10) else if agrB p b = false then (zPar, 24)
  else if 1000 < (ins p.known (spanB b)).length then (zPar, 4) else (⟨{ p.head with blocks := if b.off = 0 then b.blocks else p.head.blocks }, ins p.known (spanB b), writeS p.data b⟩, 0)
def resP (p : Par) : Bun × Int := if chkP p ≠ 0 then (zBun, 1) else if p.known.length = 1 ∧ p.known[0]? = some (0, (p.data.length : Int)) then ({ p.head with payload := p.data }, 0) else (zBun, 25)
def addAll : List Bun → Par × Int → Par × Int
  | [], q => q
  | b :: r, q => if q.2 ≠ 0 then q else addAll r (addP q.1 b)
def allP : List Bun → Bun × Int
  | [] => (zBun, 20)
  | b :: r => if (addAll r (newP b)).2 ≠ 0 then (zBun, (addAll r (newP b)).2) else resP (addAll r (newP b)).1
end Go.Proofs.YtmknchdciblfjaaGreat
