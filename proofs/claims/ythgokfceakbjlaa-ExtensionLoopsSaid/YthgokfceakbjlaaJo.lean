/- Joined by port.py: XEd XEh -/
import Derived.Test.YthgokfceakbjlaaJg
import Derived.Test.YthgokfceakbjlaaJh
import Derived.WalkSpells
import Derived.Lib.SliceRun
import Derived.Test.YthgokfceakbjlaaJa
import Derived.Test.YthgokfceakbjlaaJb
import Derived.Test.YthgokfceakbjlaaJd
import Derived.Test.YthgokfceakbjlaaJe
set_option linter.unusedVariables false
set_option linter.unusedSimpArgs false
/-! XEd -/
namespace Go.Proofs.Ythgokfceakbjlaa
open Go Go.RowKit
attribute [local go_sem] B_getElem B_size B_app B_extract B_get B_toList
def RInts (w : World) (N : Nat) (v : Value) (l : List Int) : Prop :=
  ∃ a c, v = .slice a l.length c ∧ l.length ≤ c ∧ c ≤ maxLen ∧ (a = none → c = 0) ∧ (0 < l.length → ∃ b o, a = some ⟨b, o, none⟩ ∧ b < N ∧ ∀ (i : Nat) (x : Int), l[i]? = some x → w.cell? ⟨b, o + i, none⟩ = some (.int .i64 x))
theorem RInts.keep {w w' : World} {N M : Nat} {v : Value} {l : List Int} (h : RInts w N v l) (k : ∀ b o, b < N → w'.cell? ⟨b, o, none⟩ = w.cell? ⟨b, o, none⟩) (hM : N ≤ M) : RInts w' M v l := by
  obtain ⟨a, c, e1, e2, e3, e4, e5⟩ := h
  refine ⟨a, c, e1, e2, e3, e4, fun hp => ?_⟩
  obtain ⟨b, o, ea, hb, hi⟩ := e5 hp
  exact ⟨b, o, ea, by omega, fun i x hx => (k _ _ hb).trans (hi i x hx)⟩
theorem RInts.below {w w' : World} {N C M : Nat} {v : Value} {l : List Int} (h : RInts w N v l) (k : Below C w w') (hC : N ≤ C) (hM : N ≤ M) : RInts w' M v l :=
  h.keep (fun b o hb => k.cell (p := ⟨b, o, none⟩) (by show b < C; omega)) hM
set_option maxRecDepth 100000 in
set_option maxHeartbeats 1000000 in
theorem indexInt_any (l : List Int) (u : Value) (n : Int) (w : World) (h : RInts w w.heap.size u l) :
    Calls Try.prog 54 #[u, .int .i64 n] w fun e w' => (e = .returned (.int .i64 (-1)) ∧ l.contains n = false ∨ ∃ k : Nat, e = .returned (.int .i64 k) ∧ l.contains n = true) ∧ w' = w := by
  obtain ⟨a, c, rfl, h1, h2, h3, h4⟩ := h
  unfold maxLen at h2
  have hlen : l.length ≤ 9223372036854775807 := by omega
  have H4 := Lib.hid h4
  clear h3 h4
  go_enter Try.func54, Try.ntmps54
  go_wp2
  go_loopw [8] (fun i wr => ∃ k : Nat, k ≤ l.length ∧ i = .int .i64 k ∧ Hid (∀ x ∈ l.take k, n ≠ x) ∧ wr = w) (fun i _ => l.length - (intOf i).toNat)
  case atStart => exact ⟨0, Nat.zero_le _, rfl, Lib.hid (by simp), rfl⟩
  case round =>
    obtain ⟨k, hk, rfl, HF, rfl⟩ := hrel
    by_cases hlt : k < l.length
    · obtain ⟨bb, o, rfl, hbn, hcell⟩ := H4.out (by omega)
      obtain ⟨x, hx⟩ : ∃ x, l[k]? = some x := ⟨_, List.getElem?_eq_getElem hlt⟩
      have c1 := hcell k x hx
      have k0 : (0 : Int) ≤ (k : Int) := by omega
      have k1 : (k : Int) < (l.length : Int) := by omega
      have HX := Lib.hid hx
      clear hx hcell
      by_cases hq : n = x
      · have hq2 : (n == x) = true := beq_iff_eq.2 hq
        have HQ : Hid (l.contains n = true) := Lib.hid (by rw [List.contains_iff_mem, hq]; exact List.mem_of_getElem? HX.out)
        clear hq
        go_wp2
        go_ret
        exact ⟨.inr ⟨k, rfl, HQ.out⟩, rfl⟩
      · have hq2 : (n == x) = false := beq_eq_false_iff_ne.2 hq
        have HQ := Lib.hid hq
        clear hq
        go_wp2
        go_roundw
        case rel =>
          refine ⟨k + 1, by omega, by go_num, Lib.hid ?_, trivial⟩
          intro y hy
          rw [List.take_add_one, HX.out] at hy
          rcases List.mem_append.1 hy with hy | hy
          · exact HF.out y hy
          · simp at hy; subst hy; exact HQ.out
        case measure => simp [intOf]; omega
    · obtain rfl : k = l.length := by omega
      go_wp2
      go_ret
      refine ⟨.inl ⟨rfl, ?_⟩, rfl⟩
      have := HF.out
      rw [List.take_length] at this
      cases hc : l.contains n with
      | false => rfl
      | true => exact absurd rfl (this n (List.contains_iff_mem.1 hc))
set_option maxHeartbeats 1000000 in
theorem contains_any (l : List Int) (u : Value) (n : Int) (w : World) (h : RInts w w.heap.size u l) :
    Calls Try.prog 29 #[u, .int .i64 n] w fun e w' => e = .returned (.bool (l.contains n)) ∧ w' = w := by
  have HR := Lib.hid h
  clear h
  go_enter Try.func29, Try.ntmps29
  go_wp2_with fail
  refine (indexInt_any l u n _ HR.out).mono ?_
  rintro e w1 ⟨⟨rfl, hF⟩ | ⟨k, rfl, hF⟩, rfl⟩
  · have HF := Lib.hid hF
    clear hF
    go_wp2
    go_ret
    exact ⟨by rw [HF.out]; rfl, rfl⟩
  · have HF := Lib.hid hF
    clear hF
    go_wp2
    go_ret
    exact ⟨by rw [HF.out]; first | rfl | (simp; done), rfl⟩
/-- a block has a flag, and its kind is not known -/
def wit (known : List Int) (flag : Int) (x : Blk) : Bool := hasF x.flags flag && !known.contains x.kind
theorem bit_flag (f k : Int) (h1 : 0 ≤ f) (h2 : f ≤ 15) (hk : k = 1 ∨ k = 2 ∨ k = 4 ∨ k = 8) : (bits .and .i64 f k != 0) = hasF f k := by
  obtain ⟨m, rfl⟩ : ∃ m : Nat, f = m := ⟨f.toNat, by omega⟩
  have h : ∀ n : Fin 16, (bits .and .i64 (n.val : Int) 1 != 0) = hasF (n.val : Int) 1 ∧ (bits .and .i64 (n.val : Int) 2 != 0) = hasF (n.val : Int) 2 ∧ (bits .and .i64 (n.val : Int) 4 != 0) = hasF (n.val : Int) 4 ∧ (bits .and .i64 (n.val : Int) 8 != 0) = hasF (n.val : Int) 8 := by decide +kernel
  have := h ⟨m, by omega⟩
  rcases hk with rfl | rfl | rfl | rfl
  · exact this.1
  · exact this.2.1
  · exact this.2.2.1
  · exact this.2.2.2
end Go.Proofs.Ythgokfceakbjlaa
/-! XEh -/
namespace Go.Proofs.Ythgokfceakbjlaa
open Go Go.RowKit
theorem infoInt : (Try.prog.info? 3).map (fun i => (i.zero, i.size, i.bytes)) = some (some (.int .i64 0), 1, 8) := by kernel_rfl
def ints (l : List Int) : List Value := l.map fun x => .int .i64 x
theorem RInts.of_own {w : World} {base n : Nat} {e : TypeId} {v : Value} {l : List Int} (h : w.ownsRow base e 1 v n (ints l)) : RInts w w.heap.size v l := by
  have hl : n = l.length := by have := h.1; simp [ints] at this; omega
  subst hl
  have hh := h
  rcases h.2 with ⟨rfl, hz⟩ | ⟨g, cap, cur, rfl, hb, hg, hn, hm, hs, ht⟩
  · have : l = [] := List.eq_nil_of_length_eq_zero hz
    subst this
    exact ⟨none, 0, rfl, Nat.le_refl _, by simp, fun _ => rfl, fun h => by simp at h⟩
  · have hlt : g < w.heap.size := by
      rcases Nat.lt_or_ge g w.heap.size with h | h
      · exact h
      · rw [Array.getElem?_eq_none h] at hg; cases hg
    refine ⟨_, _, rfl, hn, hm, (fun h => by cases h), fun _ => ⟨g, 0, rfl, hlt, fun i x hx => ?_⟩⟩
    have := own_get hh rfl (j := i) (u := .int .i64 x) (by simp [ints, hx])
    rwa [addN] at this
def CloneIPost (l : List Int) (w : World) (e : Ending) (w' : World) : Prop := ∃ v, e = .returned v ∧ Below w.heap.size w w' ∧ w'.ownsRow w.heap.size 3 1 v l.length (ints l)
set_option maxRecDepth 100000 in
set_option maxHeartbeats 1000000 in
theorem cloneInt_any (l : List Int) (v : Value) (w : World) (h : RInts w w.heap.size v l) (hl : l.length ≤ 1000) :
    Calls Try.prog 43 #[v] w (CloneIPost l w) := by
  obtain ⟨a, c, rfl, h1, h2, h3, h4⟩ := h
  have hq : ∀ W : World, (binOp .eql 36 (.slice a l.length c) (.slice none 0 0)).run Try.prog W = .ok (.bool a.isNone) W := fun W => Lib.run_eql_slice_nil W _ _ a _ _ _ _ Try.underlying36
  cases a with
  | none =>
    have hc := h3 rfl
    subst hc
    have hz : l = [] := List.eq_nil_of_length_eq_zero (by omega)
    subst hz
    clear h3 h4
    simp only [List.length_nil, Option.isNone_none] at hq
    go_enter Try.func43, Try.ntmps43
    go_wp2
    go_ret
    exact ⟨_, rfl, (by repeat' (first | with_reducible (first | refine bset ?_ ?_ | exact Below.refl _ _ | assumption | refine bdrewN ?_ _ | refine bdrew ?_ | refine balloc0 ?_ | refine balloc ?_ ?_ | (apply btrans0; rotate_left; assumption) | (apply btrans; rotate_left; assumption)) | exact Below.refl _ _ | assumption | (apply btrans0; rotate_left; assumption) | (apply btrans; rotate_left; assumption) | (simp; done) | omega | (simp; omega))), World.ownsRow_nil _ _ _ _⟩
  | some ad =>
    obtain ⟨i0, hi, hz0, hz1, hz2⟩ := info_parts infoInt
    have H4 := Lib.hid h4
    clear h3 h4
    simp only [Option.isNone_some] at hq
    go_enter Try.func43, Try.ntmps43
    have hown : (w.alloc (.cells #[] 3)).ownsRow w.heap.size 3 1 (.slice (some ⟨w.heap.size, 0, none⟩) 0 0) 0 [] := World.ownsRow_made w #[] 0 (Nat.le_refl _) (by simp) rfl
    have hn : ∀ j u, (ints l)[j]? = some u → (w.alloc (.cells #[] 3)).cell? (ad.add j) = some u := by
      intro j u hu
      have hp : 0 < l.length := by
        cases l with
        | nil => simp [ints] at hu
        | cons x r => simp
      obtain ⟨b, o, e, hb, hc⟩ := H4.out hp
      injection e with e
      subst e
      rw [addN, World.cell?_alloc_lt _ _ _ (by simpa using hb)]
      unfold ints at hu
      rw [List.getElem?_map] at hu
      cases hx : l[j]? with
      | none => rw [hx] at hu; cases hu
      | some x => rw [hx] at hu; injection hu with hu; subst hu; exact hc j x hx
    have HN := Lib.hid hn
    clear hn
    go_wp2_with (at_builtin; refine wpList_append_own_at _ rfl _ _ _ rfl w.heap.size 3 i0 _ 1 8 Try.underlying36 hi hz0 hz1 hz2 rfl (by omega) _ _ _ rfl hown ad l.length c (ints l) rfl (by simp [ints]) HN.out (by simp [ints, Value.oneCell']) (by simp only [maxLen]; omega) (by omega) (by simp) ?_; intro v' w1 hown1 hg1 _ hat)
    go_ret
    have hb1 : Below w.heap.size w w1 := ((Below.refl _ _).alloc (Nat.le_refl _) _).grown hg1 (by simp) (fun k hk => by have : w.heap.size = k := Option.some.inj hk; omega)
    simp only [Nat.zero_add, List.nil_append] at hown1
    exact ⟨_, rfl, hb1, hown1⟩
end Go.Proofs.Ythgokfceakbjlaa
