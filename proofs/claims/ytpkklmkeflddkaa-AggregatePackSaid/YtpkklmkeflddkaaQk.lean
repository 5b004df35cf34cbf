/- Chapter 19, the reference: Pack's relations. -/
import Derived.Test.YtpkklmkeflddkaaQi
set_option linter.unusedVariables false
set_option linter.unusedSimpArgs false
namespace Go.Proofs.Ytpkklmkeflddkaa
open Go Go.RowKit
abbrev rooms (most : Int) (ss : List Int) : List Int := ss.map fun s => most - s
structure RBase (most : Int) (w : World) (gs : List (List Int)) (ss : List Int) (vals : List Value) (s6 s7 : Value) (wr : World) : Prop where
  len : gs.length = ss.length
  sums : ∀ s ∈ ss, 0 ≤ s ∧ s ≤ most
  out : OwnVI wr w.heap.size s6 gs vals
  row : wr.ownsRow w.heap.size 3 1 s7 ss.length (ints (rooms most ss))
  apart : Sps vals s7
  below : Below w.heap.size w wr
def RLoop (l : List Int) (most : Int) (w : World) (R : PSt) (s6 s7 s29 : Value) (wr : World) : Prop := ∃ (k : Nat) (gs : List (List Int)) (ss : List Int) (vals : List Value), k ≤ l.length ∧ s29 = .int .i64 k ∧ packL most (l.drop k) k (gs, ss) = R ∧ ss.length ≤ k ∧ (∀ g ∈ gs, g.length ≤ k) ∧ RBase most w gs ss vals s6 s7 wr
def RMid (l : List Int) (most : Int) (w : World) (R : PSt) (k : Nat) (n : Int) (s6 s7 s10 : Value) (wx : World) : Prop := ∃ (q : Nat) (gs : List (List Int)) (ss : List Int) (vals : List Value), s10 = .int .i64 q ∧ q < ss.length ∧ packL most (l.drop (k + 1)) (k + 1) (pkPut q k n (gs, ss)) = R ∧ ss.length ≤ k + 1 ∧ (∀ g ∈ gs, g.length ≤ k) ∧
  (∀ s, ss[q]? = some s → s + n ≤ most) ∧ RBase most w gs ss vals s6 s7 wx
section
variable {most : Int} {w : World} {gs : List (List Int)} {ss : List Int} {vals : List Value} {s6 s7 : Value} {wr : World}
theorem RBase.step {wx : World} (h : RBase most w gs ss vals s6 s7 wr) (k : Below wr.heap.size wr wx) : RBase most w gs ss vals s6 s7 wx :=
  ⟨h.len, h.sums, h.out.below k, own_kept1 h.row (fun q hq => k.block q (h.row.lt q hq).2), h.apart, btrans0 h.below k⟩
theorem rmid_old {l : List Int} {R : PSt} {k q : Nat} {n : Int} (hx : l[k]? = some n) (hpk : packL most (l.drop k) k (gs, ss) = R) (hgk : ss.length ≤ k) (hgl : ∀ g ∈ gs, g.length ≤ k) (hq : q < ss.length) (h1 : ∀ x ∈ ss.take q, decide (x ≤ most - n) = false) (h2 : ∀ x, ss[q]? = some x → decide (x ≤ most - n) = true)
    (hb : RBase most w gs ss vals s6 s7 wr) : RMid l most w R k n s6 s7 (.int .i64 q) wr := by
  have hK := pkK_some hq h1 h2
  refine ⟨q, gs, ss, vals, rfl, hq, ?_, by omega, hgl, fun s hs => ?_, hb⟩
  · rw [packL_at hx, show pkStep most k n (gs, ss) = pkPut q k n (gs, ss) by unfold pkStep pkGrow; simp only [hK]; rw [if_pos hq]] at hpk
    exact hpk
  · have := h2 s hs; simp at this; omega
theorem rmid_row {w5 : World} {o1 o2 : Obj} (hb : RBase most w gs ss vals s6 s7 wr) (hg5 : (wr.alloc o1).grownBy w5 s6.ownBlock) : (w5.alloc o2).ownsRow w.heap.size 3 1 s7 ss.length (ints (rooms most ss)) := by
  have hef : (3 : TypeId) ≠ 36 := by decide
  have ha1 : Below wr.heap.size wr (wr.alloc o1) := balloc0 (Below.refl _ _)
  have hb1 := hb.step ha1
  have hS5 : w5.ownsRow w.heap.size 3 1 s7 ss.length (ints (rooms most ss)) := own_kept1 hb1.row fun q hq => grown_keep hg5 (hb1.row.lt q hq).2 (fun e => by
    obtain ⟨c1, e1⟩ := own_at hb1.row hq
    obtain ⟨c2, e2⟩ := own_at hb1.out.1 e
    rw [e1] at e2; injection e2 with e2; injection e2 with _ e2 _; exact hef e2)
  exact own_kept1 hS5 fun q hq => (balloc0 (Below.refl _ _) : Below w5.heap.size w5 (w5.alloc o2)).block q (hS5.lt q hq).2
theorem rmid_new {l : List Int} {R : PSt} {k : Nat} {n : Int} {v5 v8 : Value} {w5 w6 : World} {o1 o2 : Obj} (hx : l[k]? = some n) (hpk : packL most (l.drop k) k (gs, ss) = R) (hgk : ss.length ≤ k) (hgl : ∀ g ∈ gs, g.length ≤ k) (hnm : 1 ≤ n ∧ n ≤ most) (h1 : ∀ x ∈ ss, decide (x ≤ most - n) = false)
    (hb : RBase most w gs ss vals s6 s7 wr)
    (ho5 : w5.ownsRow w.heap.size 36 1 v5 (gs.length + 1) (vals ++ [.slice none 0 0])) (hg5 : (wr.alloc o1).grownBy w5 s6.ownBlock)
    (ho6 : w6.ownsRow w.heap.size 3 1 v8 (ss.length + 1) (ints (rooms most ss) ++ [.int .i64 most])) (hg6 : (w5.alloc o2).grownBy w6 s7.ownBlock) (hf6 : v8.ownBlock = s7.ownBlock ∨ v8.ownBlock = some (w5.alloc o2).heap.size) :
    RMid l most w R k n v5 v8 (.int .i64 (ss.length : Nat)) w6 := by
  have hK := pkK_none h1
  have hef : (3 : TypeId) ≠ 36 := by decide
  have ha1 : Below wr.heap.size wr (wr.alloc o1) := balloc0 (Below.refl _ _)
  have hb1 := hb.step ha1
  have zA := hb1.below.size
  have z2 : (w5.alloc o2).heap.size = w5.heap.size + 1 := by simp
  have z5 := hg5.size
  have z6 := hg6.size
  have hO5 : OwnVI w5 w.heap.size v5 (gs ++ [[]]) (vals ++ [.slice none 0 0]) := hb1.out.push hef ho5 hg5 rfl
  have hty : ∀ {W : World} {va vb : Value} {na nb : Nat} {xa xb : List Value} {q : Nat}, W.ownsRow w.heap.size 3 1 va na xa → W.ownsRow w.heap.size 36 1 vb nb xb → va.ownBlock = some q → vb.ownBlock ≠ some q := fun ha hb' h1 h2 => by
    obtain ⟨c1, e1⟩ := own_at ha h1
    obtain ⟨c2, e2⟩ := own_at hb' h2
    rw [e1] at e2; injection e2 with e2; injection e2 with _ e2 _; exact hef e2
  have hB5 : Below w.heap.size w w5 := hb1.below.grown hg5 (by omega) fun q hq => (hb1.out.1.lt q hq).1
  have ha2 : Below w5.heap.size w5 (w5.alloc o2) := balloc0 (Below.refl _ _)
  have hO7 := hO5.below ha2
  have hS7 := rmid_row (o2 := o2) hb hg5
  have happ : Sps (vals ++ [.slice none 0 0]) s7 := fun i x q hx hq => by
    rcases Nat.lt_or_ge i vals.length with z | z
    · rw [List.getElem?_append_left z] at hx; exact hb.apart i x q hx hq
    · rw [List.getElem?_append_right z] at hx
      rcases Nat.eq_zero_or_pos (i - vals.length) with z3 | z3
      · rw [z3] at hx; simp at hx; subst hx; cases hq
      · rw [List.getElem?_eq_none (by simp; omega)] at hx; cases hx
  have hO6 : OwnVI w6 w.heap.size v5 (gs ++ [[]]) (vals ++ [.slice none 0 0]) := hO7.keep (fun q hq => grown_keep hg6 (hO7.1.lt q hq).2 (fun e => hty hS7 hO7.1 e hq)) (fun k x q hx hq => grown_keep hg6 (hO7.lt hx hq).2 (happ k x q hx hq))
  have hB6 : Below w.heap.size w w6 := (btrans0 hB5 ha2).grown hg6 (by omega) fun q hq => (hS7.lt q hq).1
  refine ⟨ss.length, gs ++ [[]], ss ++ [0], vals ++ [.slice none 0 0], rfl, by simp, ?_, by simp; omega, fun g hg => ?_, fun s hs => ?_, ⟨by simp [hb.len], fun s hs => ?_, hO6, by simpa [ints, rooms] using ho6, fun i x q hx hq e => ?_, hB6⟩⟩
  · rw [packL_at hx, show pkStep most k n (gs, ss) = pkPut ss.length k n (gs ++ [[]], ss ++ [0]) by unfold pkStep pkGrow; simp only [hK]; rw [if_neg (by omega)]] at hpk
    exact hpk
  · rcases List.mem_append.1 hg with hg | hg
    · exact hgl g hg
    · simp at hg; subst hg; simp
  · simp at hs; omega
  · rcases List.mem_append.1 hs with hs | hs
    · exact hb.sums s hs
    · simp at hs; omega
  · rcases hf6 with z | z
    · exact happ i x q hx hq (by rw [← z]; exact e)
    · rw [z] at e; cases e
      have := (hO7.lt hx hq).2
      omega
theorem RLoop.drew {l : List Int} {R : PSt} {s29 : Value} (h : RLoop l most w R s6 s7 s29 wr) : RLoop l most w R s6 s7 s29 wr.drew := by
  obtain ⟨k, gs, ss, vals, h1, h2, h3, h4, h5, hb⟩ := h
  exact ⟨k, gs, ss, vals, h1, h2, h3, h4, h5, hb.step (by exact (by repeat' (first | with_reducible (first | refine bset ?_ ?_ | exact Below.refl _ _ | assumption | refine bdrewN ?_ _ | refine bdrew ?_ | refine balloc0 ?_ | refine balloc ?_ ?_ | (apply btrans0; rotate_left; assumption) | (apply btrans; rotate_left; assumption)) | exact Below.refl _ _ | assumption | (apply btrans0; rotate_left; assumption) | (apply btrans; rotate_left; assumption) | (simp; done) | omega | (simp; omega))))⟩
/-- behind the store into out: the sums still stand as they did -/
theorem rmid_half {k q go g7 c6 c7 : Nat} {s : Int} {g : List Int} {x x' : Value} {w8 : World} {o1 : Obj} (hq : q < ss.length)
    (hb : RBase most w gs ss vals (.slice (some ⟨go, 0, none⟩) gs.length c6) (.slice (some ⟨g7, 0, none⟩) ss.length c7) wr) (hs : ss[q]? = some s) (hx : vals[q]? = some x) (hg : gs[q]? = some g)
    (ho : w8.ownsRow w.heap.size 3 1 x' (g.length + 1) (ints g ++ [.int .i64 k])) (hg8 : (wr.alloc o1).grownBy w8 x.ownBlock) (hf : x'.ownBlock = x.ownBlock ∨ x'.ownBlock = some (wr.alloc o1).heap.size) :
    OwnVI (w8.setCell ⟨go, q, none⟩ x') w.heap.size (.slice (some ⟨go, 0, none⟩) gs.length c6) (gs.set q (g ++ [(k : Int)])) (vals.set q x') ∧
    (w8.setCell ⟨go, q, none⟩ x').ownsRow w.heap.size 3 1 (.slice (some ⟨g7, 0, none⟩) ss.length c7) ss.length (ints (rooms most ss)) ∧ Sps (vals.set q x') (.slice (some ⟨g7, 0, none⟩) ss.length c7) ∧ Below w.heap.size w (w8.setCell ⟨go, q, none⟩ x') ∧ go ≠ g7 ∧
    w8.cell? ⟨go, q, none⟩ = some x ∧ w8.frozen? ⟨go, q, none⟩ = false := by
  have hef : (3 : TypeId) ≠ 36 := by decide
  have ha1 : Below wr.heap.size wr (wr.alloc o1) := balloc0 (Below.refl _ _)
  have hb1 := hb.step ha1
  have zA := hb1.below.size
  have z8 := hg8.size
  have hO := hb1.out.put hef hx hg (y := (k : Int)) (by simpa [ints] using ho) hg8 hf (Nat.le_refl _)
  have hgo : w.heap.size ≤ go ∧ go < (wr.alloc o1).heap.size := hb1.out.1.lt go rfl
  have hg7 : w.heap.size ≤ g7 ∧ g7 < (wr.alloc o1).heap.size := hb1.row.lt g7 rfl
  have h67 : go ≠ g7 := fun e => by
    obtain ⟨c1, e1⟩ := own_at hb1.out.1 (g := go) rfl
    obtain ⟨c2, e2⟩ := own_at hb1.row (g := g7) rfl
    rw [e, e2] at e1; injection e1 with e1; injection e1 with _ e1 _; exact hef e1
  have hx7 : x.ownBlock ≠ some g7 := fun e => hb.apart q x g7 hx e rfl
  have hx7' : x'.ownBlock ≠ some g7 := fun e => by
    rcases hf with z | z
    · exact hx7 (by rw [← z]; exact e)
    · rw [z] at e; cases e; omega
  have hS8 : w8.ownsRow w.heap.size 3 1 (.slice (some ⟨g7, 0, none⟩) ss.length c7) ss.length (ints (rooms most ss)) := own_kept1 hb1.row fun q' hq' => by cases hq'; exact grown_keep hg8 hg7.2 hx7
  have hS9 : (w8.setCell ⟨go, q, none⟩ x').ownsRow w.heap.size 3 1 (.slice (some ⟨g7, 0, none⟩) ss.length c7) ss.length (ints (rooms most ss)) := own_kept1 hS8 fun q' hq' => by cases hq'; exact heap_setCell_other w8 ⟨go, q, none⟩ g7 x' (fun e => h67 e.symm)
  have hl := hb.out.len
  have hO8 : w8.ownsRow w.heap.size 36 1 (.slice (some ⟨go, 0, none⟩) gs.length c6) gs.length vals := own_kept1 hb1.out.1 fun q' hq' => grown_keep hg8 (hb1.out.1.lt q' hq').2 fun e => hb1.out.other hef hx e hq'
  have hB8 : Below w.heap.size w w8 := hb1.below.grown hg8 (by omega) fun q' hq' => (hb.out.lt hx hq').1
  have a1 := hO8.cells (g := go) rfl q _ hx
  rw [addN, Nat.zero_add] at a1
  refine ⟨by simpa using hO, hS9, fun i y q' hy hq' e => ?_, hB8.setCell (p := ⟨go, q, none⟩) (show w.heap.size ≤ go by omega) _, h67, a1, hO8.frozenAt q⟩
  cases e
  by_cases hj : q = i
  · subst hj
    rw [List.getElem?_set_self (by rw [hl, hb.len]; exact hq)] at hy
    cases hy; exact hx7' hq'
  · rw [List.getElem?_set_ne hj] at hy
    exact hb.apart i y g7 hy hq' rfl
theorem rmid_end {l : List Int} {R : PSt} {k q go g7 c6 c7 : Nat} {n s : Int} {g : List Int} {x' : Value} {w9 : World} (hk : k < l.length) (hpk : packL most (l.drop (k + 1)) (k + 1) (pkPut q k n (gs, ss)) = R) (hgk : ss.length ≤ k + 1) (hgl : ∀ g ∈ gs, g.length ≤ k) (hq : q < ss.length) (hn1 : 1 ≤ n)
    (hlen : gs.length = ss.length) (hsum : ∀ s ∈ ss, 0 ≤ s ∧ s ≤ most) (hs : ss[q]? = some s) (hsn : s + n ≤ most) (hg : gs[q]? = some g)
    (h1 : OwnVI w9 w.heap.size (.slice (some ⟨go, 0, none⟩) gs.length c6) (gs.set q (g ++ [(k : Int)])) (vals.set q x')) (h2 : w9.ownsRow w.heap.size 3 1 (.slice (some ⟨g7, 0, none⟩) ss.length c7) ss.length (ints (rooms most ss))) (h3 : Sps (vals.set q x') (.slice (some ⟨g7, 0, none⟩) ss.length c7)) (h4 : Below w.heap.size w w9) (h67 : go ≠ g7) :
    RLoop l most w R (.slice (some ⟨go, 0, none⟩) gs.length c6) (.slice (some ⟨g7, 0, none⟩) ss.length c7) (.int .i64 ((k : Int) + 1)) (w9.setCell ⟨g7, q, none⟩ (.int .i64 (most - s - n))) := by
  refine ⟨k + 1, gs.set q (g ++ [(k : Int)]), ss.set q (s + n), vals.set q x', hk, (by simp), ?_, by simp; exact hgk, fun y hy => ?_, ⟨by simp [hlen], fun t ht => ?_, ?_, ?_, h3, ?_⟩⟩
  · have e1 : gs.getD q [] = g := by rw [List.getD_eq_getElem?_getD, hg]; rfl
    have e2 : ss.getD q 0 = s := by rw [List.getD_eq_getElem?_getD, hs]; rfl
    unfold pkPut at hpk
    simp only [e1, e2] at hpk
    exact hpk
  · rcases List.mem_or_eq_of_mem_set hy with hy | rfl
    · have := hgl y hy; omega
    · have := hgl g (List.mem_of_getElem? hg); simp; omega
  · rcases List.mem_or_eq_of_mem_set ht with ht | rfl
    · exact hsum t ht
    · have := (hsum s (List.mem_of_getElem? hs)).1
      omega
  · exact h1.keep (fun q' hq' => by cases hq'; exact heap_setCell_other w9 ⟨g7, q, none⟩ go _ h67) (fun j y q' hy hq' => heap_setCell_other w9 ⟨g7, q, none⟩ q' _ (fun e => by
      have e : q' = g7 := e
      exact h3 j y q' hy hq' (by rw [e]; rfl)))
  · have := (h2.stored q (.int .i64 (most - s - n))).1
    have e : most - s - n = most - (s + n) := by omega
    rw [e] at this ⊢
    simpa [ints, rooms, List.map_set] using this
  · have := h2.lt g7 rfl
    exact h4.setCell (p := ⟨g7, q, none⟩) (show w.heap.size ≤ g7 by omega) _
end
end Go.Proofs.Ytpkklmkeflddkaa
