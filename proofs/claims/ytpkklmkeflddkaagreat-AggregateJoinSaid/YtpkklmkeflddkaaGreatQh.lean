/- Chapter 19: Pack's meaning in plain Lean, its closures. -/
import Derived.Test.YtpkklmkeflddkaaGreatQg
set_option linter.unusedVariables false
set_option linter.unusedSimpArgs false
namespace Go.Proofs.YtpkklmkeflddkaaGreat
open Go Go.RowKit
abbrev PSt := List (List Int) × List Int
def pkK (most n : Int) (ss : List Int) : Nat := ss.findIdx fun s => decide (s ≤ most - n)
def pkGrow (k : Nat) (st : PSt) : PSt := if k < st.2.length then st else (st.1 ++ [[]], st.2 ++ [0])
def pkPut (k : Nat) (i n : Int) (st : PSt) : PSt := (st.1.set k (st.1.getD k [] ++ [i]), st.2.set k (st.2.getD k 0 + n))
def pkStep (most i n : Int) (st : PSt) : PSt := pkPut (pkK most n st.2) i n (pkGrow (pkK most n st.2) st)
def packL (most : Int) : List Int → Nat → PSt → PSt
  | [], _, st => st
  | n :: r, i, st => packL most r (i + 1) (pkStep most i n st)
def packS (l : List Int) (most : Int) : List (List Int) × Int :=
  if 1000 < l.length then ([], 4) else if most < 1 ∨ 1152921504606846976 < most ∨ l.any (fun n => decide (n < 1)) = true then ([], 2)
  else if l.any (fun n => decide (n > most)) = true then ([], 15) else ((packL most l 0 ([], [])).1, 0)
theorem packL_at {most : Int} {l : List Int} {k : Nat} {n : Int} (hk : l[k]? = some n) (i : Nat) (st : PSt) : packL most (l.drop k) i st = packL most (l.drop (k + 1)) (i + 1) (pkStep most i n st) := by
  have h1 : k < l.length := by
    rcases Nat.lt_or_ge k l.length with z | z
    · exact z
    · rw [List.getElem?_eq_none z] at hk; cases hk
  rw [List.drop_eq_getElem_cons h1]
  rw [List.getElem?_eq_getElem h1] at hk
  rw [Option.some.inj hk]
  rfl
theorem pkK_none {most n : Int} {ss : List Int} (h : ∀ x ∈ ss, decide (x ≤ most - n) = false) : pkK most n ss = ss.length := by
  unfold pkK
  exact List.findIdx_eq_length.2 h
theorem pkK_some {most n : Int} {ss : List Int} {k : Nat} (hk : k < ss.length) (h : ∀ x ∈ ss.take k, decide (x ≤ most - n) = false) (h2 : ∀ x, ss[k]? = some x → decide (x ≤ most - n) = true) : pkK most n ss = k := by
  unfold pkK
  refine (List.findIdx_eq hk).2 ⟨h2 _ (List.getElem?_eq_getElem hk), fun j hj => ?_⟩
  exact h _ (by rw [List.mem_take_iff_getElem]; exact ⟨j, by omega, rfl⟩)
theorem pkK_le {most n : Int} {ss : List Int} : pkK most n ss ≤ ss.length := List.findIdx_le_length
theorem pkK_at {most n : Int} {ss : List Int} {s : Int} (h : ss[pkK most n ss]? = some s) : s ≤ most - n := by
  have hlt : pkK most n ss < ss.length := by
    rcases Nat.lt_or_ge (pkK most n ss) ss.length with z | z
    · exact z
    · rw [List.getElem?_eq_none z] at h; cases h
  have := List.findIdx_getElem (w := hlt)
  rw [List.getElem?_eq_getElem hlt] at h
  rw [← Option.some.inj h]
  simp only [decide_eq_true_eq] at this
  exact this
attribute [local go_sem] B_getElem B_size B_app B_extract B_get B_toList
theorem pk1_pred (l : List Int) (w : World) : PredI 36 #[] (fun n => decide (n < 1)) w l := by
  refine ⟨fun _ _ => by kernel_rfl, fun x W hx hW => ?_⟩
  show Calls Tryz.prog 36 #[.int .i64 x] W fun e W' => e = .returned (.bool (decide (x < 1))) ∧ Below W.heap.size W W'
  go_enter Tryz.func36, Tryz.ntmps36
  go_wp2
  go_ret
  exact ⟨rfl, (by repeat' (first | with_reducible (first | refine bset ?_ ?_ | exact Below.refl _ _ | assumption | refine bdrewN ?_ _ | refine bdrew ?_ | refine balloc0 ?_ | refine balloc ?_ ?_ | (apply btrans0; rotate_left; assumption) | (apply btrans; rotate_left; assumption)) | exact Below.refl _ _ | assumption | (apply btrans0; rotate_left; assumption) | (apply btrans; rotate_left; assumption) | (simp; done) | omega | (simp; omega)))⟩
theorem pk2_pred (l : List Int) (w : World) (g : Nat) (t : TypeId) (most : Int) (hg : w.heap[g]? = some (.cells #[.int .i64 most] t (0, 0))) : PredI 37 #[.pointer (some ⟨g, 0, none⟩)] (fun n => decide (n > most)) w l := by
  have zg : g < w.heap.size := by
    rcases Nat.lt_or_ge g w.heap.size with z | z
    · exact z
    · rw [Array.getElem?_eq_none z] at hg; cases hg
  refine ⟨fun _ _ => by kernel_rfl, fun x W hx hW => ?_⟩
  have c0 := cellB ((hW.block _ zg).trans hg) 0
  show Calls Tryz.prog 37 #[.int .i64 x, .pointer (some ⟨g, 0, none⟩)] W fun e W' => e = .returned (.bool (decide (x > most))) ∧ Below W.heap.size W W'
  clear hg
  go_enter Tryz.func37, Tryz.ntmps37
  go_wp2
  go_ret
  exact ⟨rfl, (by repeat' (first | with_reducible (first | refine bset ?_ ?_ | exact Below.refl _ _ | assumption | refine bdrewN ?_ _ | refine bdrew ?_ | refine balloc0 ?_ | refine balloc ?_ ?_ | (apply btrans0; rotate_left; assumption) | (apply btrans; rotate_left; assumption)) | exact Below.refl _ _ | assumption | (apply btrans0; rotate_left; assumption) | (apply btrans; rotate_left; assumption) | (simp; done) | omega | (simp; omega)))⟩
theorem pk3_pred (l : List Int) (w : World) (g h : Nat) (t u : TypeId) (most n : Int) (hg : w.heap[g]? = some (.cells #[.int .i64 most] t (0, 0))) (hh : w.heap[h]? = some (.cells #[.int .i64 n] u (0, 0)))
    (hm : 0 ≤ most - n) (hm2 : most - n ≤ 9223372036854775807) : PredI 39 #[.pointer (some ⟨g, 0, none⟩), .pointer (some ⟨h, 0, none⟩)] (fun s => decide (s ≤ most - n)) w l := by
  have zg : g < w.heap.size := by
    rcases Nat.lt_or_ge g w.heap.size with z | z
    · exact z
    · rw [Array.getElem?_eq_none z] at hg; cases hg
  have zh : h < w.heap.size := by
    rcases Nat.lt_or_ge h w.heap.size with z | z
    · exact z
    · rw [Array.getElem?_eq_none z] at hh; cases hh
  refine ⟨fun _ _ => by kernel_rfl, fun x W hx hW => ?_⟩
  have c0 := cellB ((hW.block _ zg).trans hg) 0
  have c1 := cellB ((hW.block _ zh).trans hh) 0
  have hwr : IntKind.i64.wrap (most - n) = most - n := by rw [IntKind.wrap_i64]; omega
  show Calls Tryz.prog 39 #[.int .i64 x, .pointer (some ⟨g, 0, none⟩), .pointer (some ⟨h, 0, none⟩)] W fun e W' => e = .returned (.bool (decide (x ≤ most - n))) ∧ Below W.heap.size W W'
  clear hg hh
  go_enter Tryz.func39, Tryz.ntmps39
  go_wp2
  go_ret
  try rw [hwr]
  exact ⟨rfl, (by repeat' (first | with_reducible (first | refine bset ?_ ?_ | exact Below.refl _ _ | assumption | refine bdrewN ?_ _ | refine bdrew ?_ | refine balloc0 ?_ | refine balloc ?_ ?_ | (apply btrans0; rotate_left; assumption) | (apply btrans; rotate_left; assumption)) | exact Below.refl _ _ | assumption | (apply btrans0; rotate_left; assumption) | (apply btrans; rotate_left; assumption) | (simp; done) | omega | (simp; omega)))⟩
theorem own_shape {w : World} {base n size : Nat} {e : TypeId} {v : Value} {xs : List Value} (h : w.ownsRow base e size v n xs) : ∃ a c, v = .slice a n c := by
  rcases h.2 with ⟨rfl, rfl⟩ | ⟨g, cap, cur, rfl, _⟩
  · exact ⟨_, _, rfl⟩
  · exact ⟨_, _, rfl⟩
theorem own_form {w : World} {base n size : Nat} {e : TypeId} {v : Value} {xs : List Value} (h : w.ownsRow base e size v n xs) (hn : 0 < n) : ∃ g c, v = .slice (some ⟨g, 0, none⟩) n c := by
  rcases h.2 with ⟨rfl, rfl⟩ | ⟨g, cap, cur, rfl, _⟩
  · omega
  · exact ⟨_, _, rfl⟩
theorem infoInts : (Tryz.prog.info? 43).map (fun i => (i.zero, i.size, i.bytes)) = some (some (.slice none 0 0), 1, 24) := by kernel_rfl
/-- the sums lie in a block that no group lies in -/
def Sps (vals : List Value) (vs : Value) : Prop := ∀ (i : Nat) x q, vals[i]? = some x → x.ownBlock = some q → vs.ownBlock ≠ some q
def NoB (vals : List Value) (p : Nat) : Prop := ∀ (i : Nat) x, vals[i]? = some x → x.ownBlock ≠ some p
end Go.Proofs.YtpkklmkeflddkaaGreat
