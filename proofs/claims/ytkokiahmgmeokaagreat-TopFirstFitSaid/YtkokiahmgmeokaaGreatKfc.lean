/- The moves of a label: plain. -/
import Derived.Test.YtkokiahmgmeokaaGreatKfb
set_option linter.unusedVariables false
set_option linter.unusedSimpArgs false
namespace Go.Proofs.YtkokiahmgmeokaaGreat
open Go Go.RowKit Iv
attribute [local go_sem] Oper.semAt_some
attribute [local go_sem] B_getElem B_size B_app B_extract B_get B_toList
/-- a move: the label to which it leads, and the hop -/
abbrev Mv := Lbl × (Int × Int × Int × Int)
def mvC (m : Mv) : Array Value := #[.int .i64 m.1.nd, .int .i64 m.1.fr, .int .i64 m.1.tt, .int .i64 m.1.tm, .int .i64 m.2.1, .int .i64 m.2.2.1, .int .i64 m.2.2.2.1, .int .i64 m.2.2.2.2]
def mvOK (g : Gp) (x : Lbl) (c : Con) (room : Sp) (e a : Int) : Prop := leaveS g.cu e c.rg ≤ x.tt ∧ a ≤ g.D ∧ (c.tt = g.dst ∨ a < room.2)
instance (g : Gp) (x : Lbl) (c : Con) (room : Sp) (e a : Int) : Decidable (mvOK g x c room e a) := by unfold mvOK; exact inferInstance
def conA (g : Gp) (i : Nat) : Con := g.cs.getD i ⟨0, 0, 0, 0, 0, 0, 0⟩
def gapA (g : Gp) (i : Nat) : List Sp := g.G.getD i []
def durA (g : Gp) (i : Nat) : Int := g.Ds.getD i 0
def moveOf (g : Gp) (x : Lbl) (i : Nat) (room : Sp) : Option Mv :=
  match hopG (gapA g i) (durA g i) (max x.tm room.1) with
  | none => none
  | some b => if mvOK g x (conA g i) room (b + durA g i) (b + durA g i + (conA g i).rg) then some (⟨(conA g i).tt, room.1, room.2, b + durA g i + (conA g i).rg⟩, ((i : Int), b, b + durA g i, b + durA g i + (conA g i).rg)) else none
def roomsA (g : Gp) (i : Nat) : List Sp := roomsP g (conA g i).tt.toNat
def movesI (g : Gp) (x : Lbl) (i : Nat) : List Mv := if (conA g i).fr = x.nd then (roomsA g i).filterMap (moveOf g x i) else []
def movesP (g : Gp) (x : Lbl) (n : Nat) : List Mv := (List.range n).flatMap (movesI g x)
def movesL (g : Gp) (x : Lbl) : List Mv := movesP g x g.cs.length
theorem movesP_succ (g : Gp) (x : Lbl) (n : Nat) : movesP g x (n + 1) = movesP g x n ++ movesI g x n := by
  unfold movesP
  rw [List.range_succ, List.flatMap_append]
  simp
theorem movesP_pre (g : Gp) (x : Lbl) {n : Nat} (hn : n + 1 ≤ g.cs.length) : ∃ r, movesL g x = movesP g x n ++ movesI g x n ++ r := by
  unfold movesL
  obtain ⟨k, hk⟩ : ∃ k, g.cs.length = n + 1 + k := ⟨g.cs.length - (n + 1), by omega⟩
  rw [hk, ← movesP_succ]
  clear hk hn
  induction k with
  | zero => exact ⟨[], by simp⟩
  | succ k ih =>
    obtain ⟨r, hr⟩ := ih
    exact ⟨r ++ movesI g x (n + 1 + k), by rw [show n + 1 + (k + 1) = n + 1 + k + 1 by omega, movesP_succ, hr, List.append_assoc]⟩
theorem inner_succ (g : Gp) (x : Lbl) (i k : Nat) {r : Sp} (hk : (roomsA g i)[k]? = some r) : ((roomsA g i).take (k + 1)).filterMap (moveOf g x i) = ((roomsA g i).take k).filterMap (moveOf g x i) ++ (moveOf g x i r).toList := by
  rw [List.take_add_one, hk, List.filterMap_append]
  congr 1
theorem inner_pre (g : Gp) (x : Lbl) (i k : Nat) {r : Sp} {m : Mv} (hf : (conA g i).fr = x.nd) (hk : (roomsA g i)[k]? = some r) (hm : moveOf g x i r = some m) : ∃ r', movesI g x i = ((roomsA g i).take k).filterMap (moveOf g x i) ++ [m] ++ r' := by
  refine ⟨((roomsA g i).drop (k + 1)).filterMap (moveOf g x i), ?_⟩
  have h := inner_succ g x i k hk
  rw [hm] at h
  unfold movesI
  rw [if_pos hf]
  conv => lhs; rw [← List.take_append_drop (k + 1) (roomsA g i), List.filterMap_append, h]
  rfl
/-- blocks that a round leaves as they are -/
def Prot (B z1 z2 q : Nat) (e : TypeId) : Prop := q < B ∨ q = z1 ∨ q = z2 ∨ e = 50 ∨ e = 38 ∨ e = 42
def KpP (B z1 z2 : Nat) (w w' : World) : Prop := w.heap.size ≤ w'.heap.size ∧ ∀ (q : Nat) (cs : Array Value) (e : TypeId) (f : Nat × Nat), w.heap[q]? = some (Obj.cells cs e f) → Prot B z1 z2 q e → w'.heap[q]? = some (.cells cs e f)
theorem KpP.refl (B z1 z2 : Nat) (w : World) : KpP B z1 z2 w w := ⟨Nat.le_refl _, fun _ _ _ _ h _ => h⟩
theorem KpP.trans {B z1 z2 : Nat} {a b c : World} (h : KpP B z1 z2 a b) (k : KpP B z1 z2 b c) : KpP B z1 z2 a c := ⟨Nat.le_trans h.1 k.1, fun q cs e f hq hp => k.2 q cs e f (h.2 q cs e f hq hp) hp⟩
theorem KpP.of {B z1 z2 : Nat} {w w' : World} (h : CK w w') : KpP B z1 z2 w w' := ⟨h.1, fun q cs e f hq _ => h.2 q cs e f hq⟩
theorem KpP.putObj {B z1 z2 : Nat} (W : World) (l : Nat) {o : Obj} (o' : Obj) (h : W.heap[l]? = some o) (hc : o.isCells = false) : KpP B z1 z2 W (W.putObj l o') := ⟨(grownBy_putObj' W l o').size, fun q cs e f hq _ => by
  refine ((grownBy_putObj' W l o').block q (Array.getElem?_eq_some_iff.1 hq).1 (fun e' => ?_)).trans hq
  injection e' with e'
  subst e'
  rw [h] at hq
  injection hq with hq
  subst hq
  cases hc⟩
theorem CK.kpp {B z1 z2 : Nat} {w0 a b : World} (h : CK w0 a) (k : KpP B z1 z2 a b) (hB : w0.heap.size ≤ B) : CK w0 b := ⟨Nat.le_trans h.1 k.1, fun q cs e f hq => k.2 q cs e f (h.2 q cs e f hq) (.inl (Nat.lt_of_lt_of_le (Array.getElem?_eq_some_iff.1 hq).1 hB))⟩
end Go.Proofs.YtkokiahmgmeokaaGreat
