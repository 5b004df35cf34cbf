/- slices.Clone of integers; rows of integers. -/
import Derived.WalkSpells
import Derived.Lib.SliceRun
import Derived.Test.YtdnbegcebloodaaEg
set_option linter.unusedVariables false
set_option linter.unusedSimpArgs false
namespace Go.Proofs.Ytdnbegcebloodaa
open Go Go.RowKit

theorem infoInt : (Try.prog.info? 3).map (fun i => (i.zero, i.size, i.bytes)) = some (some (.int .i64 0), 1, 8) := by kernel_rfl
def ints (l : List Int) : List Value := l.map fun x => .int .i64 x
theorem RInts.of_own {w : World} {base n : Nat} {e : TypeId} {v : Value} {l : List Int} (h : w.ownsRow base e 1 v n (ints l)) : RInts w w.heap.size v l := by
  have hl : n = l.length := by have := h.1; simp [ints] at this; omega
  subst hl
  have hh := h
  rcases h.2 with ⟨rfl, hz⟩ | ⟨g, cap, cur, rfl, hb, hg, hn, hm, hs, ht⟩
  · have : l = [] := List.eq_nil_of_length_eq_zero hz
    subst this
    exact ⟨none, 0, rfl, Nat.le_refl _, by simp, fun _ => rfl, fun h => by simp at h⟩
  · have hlt : g < w.heap.size := by
      rcases Nat.lt_or_ge g w.heap.size with h | h
      · exact h
      · rw [Array.getElem?_eq_none h] at hg; cases hg
    refine ⟨_, _, rfl, hn, hm, (fun h => by cases h), fun _ => ⟨g, 0, rfl, hlt, fun i x hx => ?_⟩⟩
    have := own_get hh rfl (j := i) (u := .int .i64 x) (by simp [ints, hx])
    rwa [addN] at this

def CloneIPost (l : List Int) (w : World) (e : Ending) (w' : World) : Prop := ∃ v, e = .returned v ∧ Below w.heap.size w w' ∧ w'.ownsRow w.heap.size 3 1 v l.length (ints l)
set_option maxRecDepth 100000 in
set_option maxHeartbeats 1000000 in
theorem cloneInt_any (l : List Int) (v : Value) (w : World) (h : RInts w w.heap.size v l) (hl : l.length ≤ 1000) :
    Calls Try.prog 16 #[v] w (CloneIPost l w) := by
  obtain ⟨a, c, rfl, h1, h2, h3, h4⟩ := h
  have hq : ∀ W : World, (binOp .eql 23 (.slice a l.length c) (.slice none 0 0)).run Try.prog W = .ok (.bool a.isNone) W := fun W => Lib.run_eql_slice_nil W _ _ a _ _ _ _ Try.underlying23
  cases a with
  | none =>
    have hc := h3 rfl
    subst hc
    have hz : l = [] := List.eq_nil_of_length_eq_zero (by omega)
    subst hz
    clear h3 h4
    simp only [List.length_nil, Option.isNone_none] at hq
    go_enter Try.func16, Try.ntmps16
    go_wp2
    go_ret
    exact ⟨_, rfl, (by repeat' (first | (with_reducible refine bset ?_ ?_) | (with_reducible exact Below.refl _ _) | (with_reducible assumption) | (with_reducible refine bdrewN ?_ _) | (with_reducible refine bdrew ?_) | (with_reducible refine balloc0 ?_) | (with_reducible refine balloc ?_ ?_) | (with_reducible apply btrans0; rotate_left; with_reducible assumption) | (with_reducible apply btrans; rotate_left; with_reducible assumption) | exact Below.refl _ _ | assumption | (apply btrans0; rotate_left; assumption) | (apply btrans; rotate_left; assumption) | (simp; done) | omega | (simp; omega))), World.ownsRow_nil _ _ _ _⟩
  | some ad =>
    obtain ⟨i0, hi, hz0, hz1, hz2⟩ := info_parts infoInt
    have H4 := Lib.hid h4
    clear h3 h4
    simp only [Option.isNone_some] at hq
    go_enter Try.func16, Try.ntmps16
    have hown : (w.alloc (.cells #[] 3)).ownsRow w.heap.size 3 1 (.slice (some ⟨w.heap.size, 0, none⟩) 0 0) 0 [] := World.ownsRow_made w #[] 0 (Nat.le_refl _) (by simp) rfl
    have hn : ∀ j u, (ints l)[j]? = some u → (w.alloc (.cells #[] 3)).cell? (ad.add j) = some u := by
      intro j u hu
      have hp : 0 < l.length := by
        cases l with
        | nil => simp [ints] at hu
        | cons x r => simp
      obtain ⟨b, o, e, hb, hc⟩ := H4.out hp
      injection e with e
      subst e
      rw [addN, World.cell?_alloc_lt _ _ _ (by simpa using hb)]
      unfold ints at hu
      rw [List.getElem?_map] at hu
      cases hx : l[j]? with
      | none => rw [hx] at hu; cases hu
      | some x => rw [hx] at hu; injection hu with hu; subst hu; exact hc j x hx
    have HN := Lib.hid hn
    clear hn
    go_wp2_with (at_builtin; refine wpList_append_own_at _ rfl _ _ _ rfl w.heap.size 3 i0 _ 1 8 Try.underlying23 hi hz0 hz1 hz2 rfl (by omega) _ _ _ rfl hown ad l.length c (ints l) rfl (by simp [ints]) HN.out (by simp [ints, Value.oneCell']) (by simp only [maxLen]; omega) (by omega) (by simp) ?_; intro v' w1 hown1 hg1 _ hat)
    go_ret
    have hb1 : Below w.heap.size w w1 := ((Below.refl _ _).alloc (Nat.le_refl _) _).grown hg1 (by simp) (fun k hk => by have : w.heap.size = k := Option.some.inj hk; omega)
    simp only [Nat.zero_add, List.nil_append] at hown1
    exact ⟨_, rfl, hb1, hown1⟩
end Go.Proofs.Ytdnbegcebloodaa
