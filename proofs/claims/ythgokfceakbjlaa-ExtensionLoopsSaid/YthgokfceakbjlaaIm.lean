/- Layer 14: []uint8 arguments; a row of ints that a bundle's box keeps; append of zeros. -/
import Derived.Test.YthgokfceakbjlaaIj
import Derived.Test.YthgokfceakbjlaaIe
set_option linter.unusedVariables false
set_option linter.unusedSimpArgs false
namespace Go.Proofs.Ythgokfceakbjlaa
open Go Go.RowKit
attribute [local go_sem] B_getElem B_size B_app B_extract B_get B_toList

theorem run_append_zeros (w : World) (n : Nat) (h0 : 0 < n) (hn : n ≤ 1000) :
    ∃ cap, n ≤ cap ∧ cap ≤ maxLen ∧ (Builtin.append_ #[36, 3] 36 #[.slice none 0 0, .int .i64 n]).run Try.prog w = .ok (.slice (some ⟨w.heap.size, 0, none⟩) n cap) (w.drew.alloc (.cells (Builtin.zeroCells #[.int .i64 0] n ++ Builtin.zeroCells #[.int .i64 0] (cap - n)) 3)) := by
  obtain ⟨i0, hin, hz0, hz1, hz2⟩ := info_parts infoInt
  have hnm : n ≤ maxLen := by unfold maxLen; omega
  refine ⟨grownCap w n 0 3, grownCap_ge _ _ _ _, grownCap_le_maxLen _ _ _ _ hnm, ?_⟩
  have hw : IntKind.i64.wrap (n : Int) = (n : Int) := by rw [IntKind.wrap_i64]; omega
  have hn0 : n ≠ 0 := by omega
  have h63' : ¬ (9223372036854775807 < (n : Int)) := by omega
  have h48' : ¬ (281474976710656 < Builtin.nextslicecap n 0 * 8) := by rw [nextslicecap_zero h0]; omega
  have h48'' : ¬ (281474976710656 < (n : Int) * 8) := by omega
  have hle : ¬ ((n : Int) ≤ 0) := by omega
  have hmx : max (n : Int) 0 = (n : Int) := by omega
  have hi0 : i0.size = 1 := by first | exact hz1 | omega
  have hneg : ¬ ((n : Int) < 0) := by omega
  simp [Builtin.append_, run_underlying Try.underlying36, run_underlying Try.underlying3, sizeOf, typeInfo, zeroValue, hin, hz1, hz2, hz0, hw, hn0, h63', h48', h48'', hneg, hle, hmx, hi0, asInt, asIntOf, Question.forced, run_firstCells_none, newRow, grownCap]
  rfl
theorem wpList_append_zeros {ops : Array Oper} {rest : List Oper} {o : Oper} {a : Act} {Q : Exit → Act → World → Prop} (w : World) (hgd : o.guard = none) (s x : Operand)
    (ho : o.op = .call { callee := .builtin .append, args := #[s, x], argTypes := #[36, 3] }) (hs : a.eval s = .slice none 0 0) (n : Nat) (hx : a.eval x = .int .i64 n) (h0 : 0 < n) (hn : n ≤ 1000) (ht : o.type = 36)
    (h : ∀ cap w', n ≤ cap → w'.ownsRow w.heap.size 3 1 (.slice (some ⟨w.heap.size, 0, none⟩) 0 cap) 0 (ints []) → Below w.heap.size w w' → wpList Try.prog ops Q rest (a.put o.dst (.slice (some ⟨w.heap.size, 0, none⟩) n cap)) w') : wpList Try.prog ops Q (o :: rest) a w := by
  obtain ⟨cap, h1, h2, hr⟩ := run_append_zeros w n h0 hn
  refine wpList_plain hgd fun K hK => ?_
  unfold Oper.wp execOp
  simp only [ho, resolve, invoke, builtin, Sem.run_bind, Sem.run_pure, Result.andThen_ok, List.map_toArray, List.map_cons, List.map_nil, hs, hx, ht, hr]
  refine hK _ _ (h cap _ h1 ⟨by simp [ints], .inr ⟨w.heap.size, cap, _, rfl, Nat.le_refl _, heap_alloc_new w.drew _, Nat.zero_le _, h2, ?_, by simp [ints]⟩⟩ ((bdrew (Below.refl _ _)).alloc (by simp) _))
  rw [Array.size_append, size_zeroCells, size_zeroCells]
  simp
  omega
def GrowPost (w : World) (e : Ending) (w' : World) : Prop := ∃ v, e = .returned v ∧ w'.ownsRow w.heap.size 3 1 v 0 (ints []) ∧ Below w.heap.size w w'
set_option maxRecDepth 100000 in
set_option maxHeartbeats 4000000 in
theorem growNil_any (n : Nat) (w : World) (hn : n ≤ 1000) : Calls Try.prog 55 #[.slice none 0 0, .int .i64 n] w (GrowPost w) := by
  by_cases h0 : n = 0
  · subst h0
    go_enter Try.func55, Try.ntmps55
    go_wp2
    go_ret
    unfold GrowPost
    exact ⟨_, rfl, World.ownsRow_nil _ _ _ _, Below.refl _ _⟩
  have n0 : ¬ ((n : Int) < 0) := by omega
  have n1 : (0 : Int) < (n : Int) := by omega
  go_enter Try.func55, Try.ntmps55
  go_wp2_with (at_builtin; refine wpList_append_zeros _ rfl _ _ rfl rfl n rfl (by omega) hn rfl ?_; intro cap w1 hcap hown hB1)
  have hc0 : (0 : Int) ≤ (cap : Int) := by omega
  go_wp2
  go_ret
  unfold GrowPost
  exact ⟨_, rfl, hown, hB1⟩
def ConcPost (l : List Int) (w : World) (e : Ending) (w' : World) : Prop := ∃ v, e = .returned v ∧ RInts w' w'.heap.size v l ∧ Below w.heap.size w w'
set_option maxRecDepth 100000 in
set_option maxHeartbeats 8000000 in
theorem concat2_any (l m : List Int) (u v : Value) (g : Nat) (t : TypeId) (w : World) (hg : w.heap[g]? = some (.cells #[u, v] t (0, 0))) (h : RInts w w.heap.size u l) (k : RInts w w.heap.size v m) (hl : l.length ≤ 400) (hm : m.length ≤ 400) :
    Calls Try.prog 30 #[.slice (some ⟨g, 0, none⟩) 2 2] w (ConcPost (l ++ m) w) := by
  have hgl : g < w.heap.size := by
    rcases Nat.lt_or_ge g w.heap.size with z | z
    · exact z
    · rw [Array.getElem?_eq_none z] at hg; cases hg
  have HG := Lib.hid hg
  have HR := Lib.hid h
  have KR := Lib.hid k
  obtain ⟨ua, uc, rfl, _⟩ := id h
  obtain ⟨va, vc, rfl, _⟩ := id k
  clear h k hg
  have e1 : IntKind.i64.wrap ((l.length : Int) + (m.length : Int)) = ((l.length + m.length : Nat) : Int) := by rw [IntKind.wrap_i64]; omega
  go_enter Try.func30, Try.ntmps30
  go_wp2
  go_loopw [11, 3] (fun i s wr => ∃ k : Nat, k ≤ 2 ∧ i = .int .i64 k ∧ s = .int .i64 ((if k = 0 then 0 else if k = 1 then l.length else l.length + m.length : Nat) : Int) ∧ wr = w) (fun i _ _ => 2 - (intOf i).toNat)
  case atStart => exact ⟨0, by omega, rfl, rfl, rfl⟩
  case round =>
    obtain ⟨k, hk, rfl, rfl, hw⟩ := hrel
    replace hw := hw.symm
    subst hw
    have cl := fun o => cellB HG.out o
    rcases (show k = 0 ∨ k = 1 ∨ k = 2 by omega) with e | e | e
    · subst e
      rw [if_pos rfl]
      go_wp2
      go_roundw
      case rel => exact ⟨1, by omega, by go_num, by rw [if_neg (by decide), if_pos rfl] <;> go_num, trivial⟩
      case measure => simp [intOf]
    · subst e
      rw [if_neg (by decide), if_pos rfl]
      go_wp2
      go_roundw
      case rel => exact ⟨2, by omega, by go_num, by rw [if_neg (by decide), if_neg (by decide)]; first | go_num | (rw [e1]), trivial⟩
      case measure => simp [intOf]
    · subst e
      rw [if_neg (by decide), if_neg (by decide)]
      go_wp2_with fail
      refine (growNil_any (l.length + m.length) _ (by omega)).mono ?_
      unfold GrowPost
      rintro e w1 ⟨vo, rfl, hown, hB1⟩
      have HG1 := Lib.hid ((hB1.block _ hgl).trans HG.out)
      clear cl
      go_wp2_with fail
      go_loopw [27, 6] (fun i s wr => ∃ (k : Nat) (xs : List Int), k ≤ 2 ∧ i = .int .i64 k ∧ Hid (xs = if k = 0 then [] else if k = 1 then l else l ++ m) ∧ wr.ownsRow w.heap.size 3 1 s xs.length (ints xs) ∧ Below w.heap.size w wr) (fun i _ _ => 2 - (intOf i).toNat)
      case atStart => exact ⟨0, [], by omega, rfl, Lib.hid (by rw [if_pos rfl]), hown, hB1⟩
      case round =>
        obtain ⟨k, xs, hk, rfl, HX, hO, hBr⟩ := hrel
        have HGr := Lib.hid ((hBr.block _ hgl).trans HG.out)
        have cl := fun o => cellB HGr.out o
        have yr := hBr.size
        have zg : g < wr.heap.size := by omega
        rcases (show k = 0 ∨ k = 1 ∨ k = 2 by omega) with e | e | e
        · subst e
          have hx := HX.out
          rw [if_pos rfl] at hx
          subst hx
          go_wp2_with (at_builtin; refine wpList_append_ints rfl _ _ rfl w.heap.size _ _ [] rfl hO _ _ l rfl (HR.out.below' hBr) (by simp; omega) (by omega) rfl ?_; intro v3 w3 hO3 hb3; have hB3 : Below w.heap.size w w3 := hBr.trans hb3)
          go_roundw
          case rel => exact ⟨1, l, by omega, by go_num, Lib.hid (by rw [if_neg (by decide), if_pos rfl]), by simpa using hO3, hB3⟩
          case measure => simp [intOf]
        · subst e
          have hx := HX.out
          rw [if_neg (by decide), if_pos rfl] at hx
          subst hx
          go_wp2_with (at_builtin; refine wpList_append_ints rfl _ _ rfl w.heap.size _ _ xs rfl hO _ _ m rfl (KR.out.below' hBr) (by omega) (by omega) rfl ?_; intro v3 w3 hO3 hb3; have hB3 : Below w.heap.size w w3 := hBr.trans hb3)
          go_roundw
          case rel => exact ⟨2, xs ++ m, by omega, by go_num, Lib.hid (by rw [if_neg (by decide), if_neg (by decide)]), by simpa using hO3, hB3⟩
          case measure => simp [intOf]
        · subst e
          have hx := HX.out
          rw [if_neg (by decide), if_neg (by decide)] at hx
          subst hx
          go_wp2
          go_ret
          unfold ConcPost
          exact ⟨_, rfl, RInts.of_own hO, hBr⟩
end Go.Proofs.Ythgokfceakbjlaa
