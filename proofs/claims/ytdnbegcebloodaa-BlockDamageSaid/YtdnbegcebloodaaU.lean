/- Small lemmas that the walks share: worlds in which only new memory has come. -/
import Derived.WalkKit
import Derived.BigQuiet
import Derived.Deep.QuietTactic
import Derived.LoopTactic
import Derived.Outline
import Derived.Lib.Hide
import Derived.Deep.DeepFit
import Derived.Deep.DeepMust
import Derived.StillTailTactics
import Derived.Deep.RegionHeld3
namespace Go.Proofs.Ytdnbegcebloodaa
open Go.RowKit

theorem bcell {W w1 : World} (hb : Below W.heap.size W w1) : (∀ b o, b < W.heap.size → w1.cell? ⟨b, o, none⟩ = W.cell? ⟨b, o, none⟩) ∧ (∀ b o, b < W.heap.size → w1.frozen? ⟨b, o, none⟩ = W.frozen? ⟨b, o, none⟩) :=
  ⟨fun b o h => hb.cell (p := ⟨b, o, none⟩) h, fun b o h => hb.frozen (p := ⟨b, o, none⟩) h⟩
theorem bdrewN {B : Nat} {a w : World} (h : Below B a w) (n : Nat) : Below B a (w.drewN n) := ⟨h.os, h.tape, h.output, h.size, h.block⟩
theorem bdrew {B : Nat} {a w : World} (h : Below B a w) : Below B a w.drew := ⟨h.os, h.tape, h.output, h.size, h.block⟩
theorem btrans {B C : Nat} {a b c : World} (h : Below B a b) (k : Below C b c) (hC : B ≤ C) : Below B a c := h.trans (k.mono hC)
theorem bset {B : Nat} {a w : World} {p : Addr} {u : Value} (h : Below B a w) (hp : B ≤ p.block) : Below B a (w.setCell p u) := h.setCell hp u
theorem balloc {B : Nat} {a w : World} {o : Obj} (h : Below B a w) (hp : B ≤ w.heap.size) : Below B a (w.alloc o) := h.alloc hp o
theorem btrans0 {a b c : World} (h : Below a.heap.size a b) (k : Below b.heap.size b c) : Below a.heap.size a c := h.trans (k.mono h.size)
theorem balloc0 {a w : World} {o : Obj} (h : Below a.heap.size a w) : Below a.heap.size a (w.alloc o) := h.alloc h.size o
theorem ret_int {k : IntKind} {a b : Int} (h : a = b) : Ending.returned (.int k a) = Ending.returned (.int k b) := by rw [h]
theorem ret_bool {a b : Bool} (h : a = b) : Ending.returned (.bool a) = Ending.returned (.bool b) := by rw [h]
end Go.Proofs.Ytdnbegcebloodaa
