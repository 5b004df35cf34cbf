/- Joined by port.py: XEc XEd XEh XEe XEf XEm XEq -/
import Derived.Test.YtpkklmkeflddkaaJb
import Derived.Test.YtpkklmkeflddkaaJa
import Derived.Test.YtpkklmkeflddkaaProg
import Derived.Test.YtpkklmkeflddkaaJg
import Derived.WalkSpells
import Derived.Lib.SliceRun
import Derived.Laws.EntriesVeiled
import Derived.Test.YtpkklmkeflddkaaJd
import Derived.Test.YtpkklmkeflddkaaJe
set_option linter.unusedVariables false
set_option linter.unusedSimpArgs false
/-! XEc -/
namespace Go.Proofs.Ytpkklmkeflddkaa
open Go Go.RowKit
attribute [local go_sem] B_getElem B_size B_app B_extract B_get B_toList
theorem infoBlk : (Try.prog.info? 88).map (fun i => (i.zero, i.size, i.bytes)) = some (some (.agg #[.int .i64 0, .int .i64 0, .string (B [])]), 3, 32) := by kernel_rfl
/-- a function value with its variables says of a block whether it has a property -/
def PredAt (f : FuncId) (caps : Array Value) (Pd : Blk → Bool) (w : World) (l : List Blk) : Prop := (∀ args W, (callFunc f args).run Try.prog W = .ok (.enter f args) W) ∧
  ∀ (x : Blk) (W : World), x ∈ l → Below w.heap.size w W → Calls Try.prog f (#[.agg #[.int .i64 x.kind, .int .i64 x.flags, .string (B x.data)]] ++ caps) W fun e W' => e = .returned (.bool (Pd x)) ∧ Below W.heap.size W W'
theorem PredAt.below {f : FuncId} {caps : Array Value} {Pd : Blk → Bool} {w w' : World} {l : List Blk} (h : PredAt f caps Pd w l) (k : Below w.heap.size w w') : PredAt f caps Pd w' l := ⟨h.1, fun x W hx hW => h.2 x W hx (btrans0 k hW)⟩
def IdxPost (Pd : Blk → Bool) (l : List Blk) (w : World) (e : Ending) (w' : World) : Prop := Below w.heap.size w w' ∧
  ((e = .returned (.int .i64 (-1)) ∧ ∀ x ∈ l, Pd x = false) ∨ ∃ k : Nat, e = .returned (.int .i64 k) ∧ k < l.length ∧ (∀ x ∈ l.take k, Pd x = false) ∧ ∀ x, l[k]? = some x → Pd x = true)
/-- a fresh list of blocks comes back -/
def BlksPost (l : List Blk) (w : World) (e : Ending) (w' : World) : Prop := ∃ v, e = .returned v ∧ RBlks w' w'.heap.size v l ∧ Below w.heap.size w w' ∧ w'.ownsRow w.heap.size 88 3 v l.length (l.flatMap blkC)
end Go.Proofs.Ytpkklmkeflddkaa
/-! XEd -/
namespace Go.Proofs.Ytpkklmkeflddkaa
open Go Go.RowKit
attribute [local go_sem] B_getElem B_size B_app B_extract B_get B_toList
def RInts (w : World) (N : Nat) (v : Value) (l : List Int) : Prop :=
  ∃ a c, v = .slice a l.length c ∧ l.length ≤ c ∧ c ≤ maxLen ∧ (a = none → c = 0) ∧ (0 < l.length → ∃ b o, a = some ⟨b, o, none⟩ ∧ b < N ∧ ∀ (i : Nat) (x : Int), l[i]? = some x → w.cell? ⟨b, o + i, none⟩ = some (.int .i64 x))
theorem RInts.keep {w w' : World} {N M : Nat} {v : Value} {l : List Int} (h : RInts w N v l) (k : ∀ b o, b < N → w'.cell? ⟨b, o, none⟩ = w.cell? ⟨b, o, none⟩) (hM : N ≤ M) : RInts w' M v l := by
  obtain ⟨a, c, e1, e2, e3, e4, e5⟩ := h
  refine ⟨a, c, e1, e2, e3, e4, fun hp => ?_⟩
  obtain ⟨b, o, ea, hb, hi⟩ := e5 hp
  exact ⟨b, o, ea, by omega, fun i x hx => (k _ _ hb).trans (hi i x hx)⟩
theorem RInts.below {w w' : World} {N C M : Nat} {v : Value} {l : List Int} (h : RInts w N v l) (k : Below C w w') (hC : N ≤ C) (hM : N ≤ M) : RInts w' M v l :=
  h.keep (fun b o hb => k.cell (p := ⟨b, o, none⟩) (by show b < C; omega)) hM
end Go.Proofs.Ytpkklmkeflddkaa
/-! XEh -/
namespace Go.Proofs.Ytpkklmkeflddkaa
open Go Go.RowKit
theorem infoInt : (Try.prog.info? 3).map (fun i => (i.zero, i.size, i.bytes)) = some (some (.int .i64 0), 1, 8) := by kernel_rfl
def ints (l : List Int) : List Value := l.map fun x => .int .i64 x
theorem RInts.of_own {w : World} {base n : Nat} {e : TypeId} {v : Value} {l : List Int} (h : w.ownsRow base e 1 v n (ints l)) : RInts w w.heap.size v l := by
  have hl : n = l.length := by have := h.1; simp [ints] at this; omega
  subst hl
  have hh := h
  rcases h.2 with ⟨rfl, hz⟩ | ⟨g, cap, cur, rfl, hb, hg, hn, hm, hs, ht⟩
  · have : l = [] := List.eq_nil_of_length_eq_zero hz
    subst this
    exact ⟨none, 0, rfl, Nat.le_refl _, by simp, fun _ => rfl, fun h => by simp at h⟩
  · have hlt : g < w.heap.size := by
      rcases Nat.lt_or_ge g w.heap.size with h | h
      · exact h
      · rw [Array.getElem?_eq_none h] at hg; cases hg
    refine ⟨_, _, rfl, hn, hm, (fun h => by cases h), fun _ => ⟨g, 0, rfl, hlt, fun i x hx => ?_⟩⟩
    have := own_get hh rfl (j := i) (u := .int .i64 x) (by simp [ints, hx])
    rwa [addN] at this
end Go.Proofs.Ytpkklmkeflddkaa
/-! XEe -/
namespace Go.Proofs.Ytpkklmkeflddkaa
open Go Go.RowKit
attribute [local go_sem] B_getElem B_size B_app B_extract B_get B_toList
theorem caE_zero : ∀ {l : List Blk} {p : Option Int}, caE p l = 0 → ∀ x ∈ l, blkE x = 0
  | [], _, _, _, h => by simp at h
  | y :: l, p, h, x, hx => by
    rw [caE] at h
    split at h
    · exact absurd h ‹_›
    · split at h
      · cases h
      · rcases List.mem_cons.1 hx with rfl | hx
        · rename_i h1 _; exact Decidable.not_not.1 h1
        · exact caE_zero h x hx
theorem chkAll_zero {l : List Blk} (h : chkAll l = 0) : l.length ≤ 8 ∧ ∀ x ∈ l, blkE x = 0 := by
  unfold chkAll at h
  split at h
  · cases h
  · exact ⟨by omega, caE_zero h⟩
theorem chkAll_flags {l : List Blk} (h : chkAll l = 0) : ∀ x ∈ l, 0 ≤ x.flags ∧ x.flags ≤ 15 := fun x hx => by
  obtain ⟨_, _, h3, h4, _⟩ := blkE_zero ((chkAll_zero h).2 x hx)
  exact ⟨h3, h4⟩
end Go.Proofs.Ytpkklmkeflddkaa
/-! XEf -/
namespace Go.Proofs.Ytpkklmkeflddkaa
open Go Go.RowKit
attribute [local go_sem] B_getElem B_size B_app B_extract B_get B_toList
theorem eqBlk (k f : Int) (d : List UInt8) (w : World) : Sem.run Try.prog (Go.binOp .neq 88 (.agg #[.int .i64 k, .int .i64 f, .string (B d)]) (.agg #[.int .i64 k, .int .i64 f, .string (B d)])) w = .ok (.bool false) w := by
  go_simp
attribute [local go_sem ↓] eqBlk
def AnyBool (w : World) (e : Ending) (w' : World) : Prop := ∃ g, e = .returned (.bool g) ∧ Below w.heap.size w w'
/-- it says true -/
def Says (w : World) (e : Ending) (w' : World) : Prop := e = .returned (.bool true) ∧ Below w.heap.size w w'
set_option maxHeartbeats 1000000 in
theorem rbcheck_any (x : Blk) (w : World) (hx : x.data.length ≤ 9223372036854775807) :
    Calls Try.prog 87 #[.agg #[.int .i64 x.kind, .int .i64 x.flags, .string (B x.data)]] w fun e w' => e = .returned (.int .i64 (blkE x)) ∧ Below w.heap.size w w' := by
  obtain ⟨E, hE⟩ : ∃ E, blkE x = E := ⟨_, rfl⟩
  have HE := Lib.hid hE
  rw [hE]
  clear hE
  go_enter Try.func87, Try.ntmps87
  go_wp2
  all_goals (go_ret; refine ⟨ret_int ?_, (by repeat' (first | with_reducible (first | refine bset ?_ ?_ | exact Below.refl _ _ | assumption | refine bdrewN ?_ _ | refine bdrew ?_ | refine balloc0 ?_ | refine balloc ?_ ?_ | (apply btrans0; rotate_left; assumption) | (apply btrans; rotate_left; assumption)) | exact Below.refl _ _ | assumption | (apply btrans0; rotate_left; assumption) | (apply btrans; rotate_left; assumption) | (simp; done) | omega | (simp; omega)))⟩; rw [← HE.out]; unfold blkE; (try simp only [Bool.not_eq_true', Bool.not_eq_false', decide_eq_true_eq, decide_eq_false_iff_not, beq_iff_eq, beq_eq_false_iff_ne, bne_iff_ne, bne_eq_false_iff_eq, ne_eq, Bool.and_eq_true, Bool.or_eq_true, Bool.and_eq_false_imp, Bool.or_eq_false_iff] at *); repeat' (first | omega | split))
end Go.Proofs.Ytpkklmkeflddkaa
/-! XEm -/
namespace Go.Proofs.Ytpkklmkeflddkaa
open Go Go.RowKit
attribute [local go_sem] B_getElem B_size B_app B_extract B_get B_toList
def zBlk : Blk := ⟨0, 0, []⟩
def findS (l : List Blk) (k : Int) : Blk × Bool := match l.find? (fun x => x.kind == k) with | some x => (x, true) | none => (zBlk, false)
theorem findS_none {l : List Blk} {k : Int} (h : ∀ x ∈ l, (x.kind == k) = false) : findS l k = (zBlk, false) := by
  unfold findS
  rw [List.find?_eq_none.2 (fun x hx => by simp only [h x hx]; simp)]
theorem findS_some {l : List Blk} {k : Int} {q : Nat} {x : Blk} (hx : l[q]? = some x) (h : ∀ y ∈ l.take q, (y.kind == k) = false) (h2 : (x.kind == k) = true) : findS l k = (x, true) := by
  unfold findS
  have hq : q < l.length := (List.getElem?_eq_some_iff.1 hx).1
  have hsp : l = l.take q ++ x :: l.drop (q + 1) := by
    rw [List.getElem?_eq_getElem hq] at hx
    injection hx with hx
    rw [← hx, List.getElem_cons_drop, List.take_append_drop]
  rw [hsp, List.find?_append, List.find?_eq_none.2 (fun y hy => by simp only [h y hy]; simp), List.find?_cons_of_pos (p := fun x : Blk => x.kind == k) h2]
  rfl
end Go.Proofs.Ytpkklmkeflddkaa
/-! XEq -/
namespace Go.Proofs.Ytpkklmkeflddkaa
open Go Go.RowKit
attribute [local go_sem] B_getElem B_size B_app B_extract B_get B_toList
theorem RBlks.lit0 (w : World) (N : Nat) (a : Addr) : RBlks w N (.slice (some a) 0 0) [] := ⟨some a, 0, rfl, Nat.le_refl _, by simp [maxLen], (fun h => by cases h), fun h => by simp at h⟩
theorem any_snoc {P : Blk → Bool} {l : List Blk} {k : Nat} {x : Blk} (hx : l[k]? = some x) : (l.take (k + 1)).any P = ((l.take k).any P || P x) := by rw [List.take_add_one, hx]; simp
end Go.Proofs.Ytpkklmkeflddkaa
