/- A row of bytes that a conversion has begun and appends go on with; layer 13 (bundle), the program: Encode, Size. -/
import Derived.Test.YthedoidpapodgaaTb
import Derived.Test.YthedoidpapodgaaTa
import Derived.Lib.AppendStr
import Derived.Lib.ConvBytes
set_option linter.unusedVariables false
set_option linter.unusedSimpArgs false
namespace Go.Proofs.Ythedoidpapodgaa
open Go Go.RowKit
attribute [local go_sem] B_getElem B_size B_app B_extract B_get B_toList

/-- v owns a row of the bytes l, nothing within its capacity frozen -/
def OwnS (w : World) (base : Nat) (v : Value) (l : List UInt8) : Prop :=
  ∃ g cap cur fz, v = .slice (some ⟨g, 0, none⟩) l.length cap ∧ base ≤ g ∧ w.heap[g]? = some (.cells cur 5 fz) ∧ (∀ j, j < cap → ¬ (fz.1 ≤ j ∧ j < fz.2)) ∧ l.length ≤ cap ∧ cap ≤ maxLen ∧ cur.size = cap ∧ cur.toList.take l.length = Lib.strCells (B l)
theorem strCells_B (l : List UInt8) : Lib.strCells (B l) = l.map fun x => Value.int .u8 (x.toNat : Int) := rfl
theorem run_storeCells_M (P : Program) (g o : Nat) (t : TypeId) (fz : Nat × Nat) : ∀ (vs : List Value) (i : Nat) (cur : Array Value) (w : World), w.heap[g]? = some (.cells cur t fz) → (∀ j, j < cur.size → ¬ (fz.1 ≤ j ∧ j < fz.2)) → o + i + vs.length ≤ cur.size → (∀ v ∈ vs, v.oneCell' = true) →
    (storeCells ⟨g, o, none⟩ vs i).run P w = .ok () (w.setRow g (cur.toList.take (o + i) ++ vs ++ cur.toList.drop (o + i + vs.length)).toArray)
  | [], i, cur, w, hg, _, _, _ => by
    simp only [storeCells, List.append_nil, List.length_nil, Nat.add_zero, List.take_append_drop, Array.toArray_toList]
    rw [setRow_self w g cur t fz hg]
    rfl
  | v :: rest, i, cur, w, hg, hfz, hl, h1 => by
    have hi : o + i < cur.size := by simp at hl; omega
    have hadd : (⟨g, o, none⟩ : Addr).add i = ⟨g, o + i, none⟩ := by unfold Addr.add; split <;> simp_all
    have hcell : w.cell? ⟨g, o + i, none⟩ = some cur[o + i] := by simp [World.cell?, hg, hi]
    have hfro : w.frozen? ⟨g, o + i, none⟩ = false := by
      have := hfz (o + i) hi
      obtain ⟨lo, hi'⟩ := fz
      simp only [World.frozen?, hg, Bool.and_eq_false_iff, decide_eq_false_iff_not]
      simp only at this
      by_cases q : lo ≤ o + i
      · exact .inr fun r => this ⟨q, r⟩
      · exact .inl q
    have hst : (store ((⟨g, o, none⟩ : Addr).add i) v).run P w = .ok () (w.setRow g (cur.setIfInBounds (o + i) v)) := by
      rw [hadd, run_store P w _ v _ (h1 v (by simp)), hcell]
      simp [hfro, setCell_eq_setRow w g (o + i) cur t fz v hg]
    have ih := run_storeCells_M P g o t fz rest (i + 1) (cur.setIfInBounds (o + i) v) (w.setRow g (cur.setIfInBounds (o + i) v)) (setRow_heap w g cur _ t _ hg) (by simpa using hfz) (by simp at hl ⊢; omega) (fun x hx => h1 x (by simp [hx]))
    simp only [storeCells, Sem.run_bind, hst, Result.andThen_ok, ih, setRow_setRow]
    congr 3
    have e := list_seg_step cur.toList (o + i) v rest (by simp at hl ⊢; omega)
    simpa [Array.toList_setIfInBounds, Nat.add_assoc] using e
theorem run_append_S {P : Program} (w : World) (base : Nat) (t u ty : TypeId) (i : TypeInfo) (ht : P.underlying t = some (.slice 5)) (hu : P.underlying u = some .string) (hi : P.info? 5 = some i) (hz : i.zero = some (.int .u8 0))
    (hsize : i.size = 1) (hby : i.bytes = 1) (v : Value) (l : List UInt8) (hown : OwnS w base v l) (s : List UInt8) (hb : l.length + s.length ≤ 140737488355328) (hbase : base ≤ w.heap.size) :
    ∃ v' w', (Builtin.append_ #[t, u] ty #[v, .string (B s)]).run P w = .ok v' w' ∧ OwnS w' base v' (l ++ s) ∧ w.grownBy w' v.ownBlock := by
  obtain ⟨g, cap, cur, fz, rfl, hbg, hg, hfz, hnc, hcm, hcs, htake⟩ := hown
  have hsl : (Lib.strCells (B l)).length = l.length := by rw [Lib.strCells_length, B_size]
  have hsl2 : (Lib.strCells (B s)).length = s.length := by rw [Lib.strCells_length, B_size]
  have hss : (B s).size = s.length := B_size s
  have hcat : Lib.strCells (B (l ++ s)) = Lib.strCells (B l) ++ Lib.strCells (B s) := by rw [strCells_B, strCells_B, strCells_B, List.map_append]
  by_cases hroom : l.length + s.length ≤ cap
  · have hf := Lib.run_firstCells_string (P := P) w 1 (B s)
    have hst := run_storeCells_M P g l.length 5 fz (Lib.strCells (B s)) 0 cur w hg (by rw [hcs]; exact hfz) (by omega) (Lib.strCells_oneCell (B s))
    simp only [Nat.add_zero, Lib.strCells_length, B_size] at hst hf
    refine ⟨.slice (some ⟨g, 0, none⟩) (l.length + s.length) cap, w.setRow g (cur.toList.take l.length ++ Lib.strCells (B s) ++ cur.toList.drop (l.length + s.length)).toArray, ?_, ?_, ⟨rfl, rfl, rfl, by simp, fun k _ hk => setRow_other w g k _ (fun e => hk (by simp [Value.ownBlock, e]))⟩⟩
    · simp [Builtin.append_, run_underlying ht, run_underlying hu, sizeOf, typeInfo, hi, hsize, Builtin.lenOf, B_size, hroom, hf, Addr.add_lit, hst]
    · refine ⟨g, cap, _, fz, by rw [List.length_append], hbg, setRow_heap w g cur _ _ _ hg, hfz, by rw [List.length_append]; exact hroom, hcm, ?_, ?_⟩
      · simp only [List.size_toArray, List.length_append, List.length_take, List.length_drop, Array.length_toList, hsl2]
        omega
      · rw [htake, hcat]
        have : (l ++ s).length = (Lib.strCells (B l) ++ Lib.strCells (B s)).length := by rw [List.length_append, List.length_append, hsl, hsl2]
        rw [this]
        exact List.take_left
  · have holds : ∀ j u, (Lib.strCells (B l))[j]? = some u → w.cell? ((⟨g, 0, none⟩ : Addr).add j) = some u := by
      intro j u hu
      rw [addN, Nat.zero_add, cell_of_row w g j cur _ fz hg]
      rw [← htake, List.getElem?_take] at hu
      split at hu
      · simpa using hu
      · cases hu
    have hr := Lib.run_append_grow_string (P := P) w t u ty 5 i (.int .u8 0) ht hu hi hz ⟨g, 0, none⟩ l.length cap (Lib.strCells (B l)) (by rw [hsize, hsl, Nat.mul_one]) holds (B s) (by omega) (by omega) (by rw [hby]; exact growslice_fits (by omega) (by omega))
    have hge := grownCap_ge w (l.length + (B s).size) cap 5
    have hcm2 : grownCap w (l.length + (B s).size) cap 5 ≤ maxLen := grownCap_le_maxLen w (l.length + (B s).size) cap 5 (by unfold maxLen; omega)
    refine ⟨_, _, hr, ⟨w.heap.size, _, _, (0, 0), by rw [List.length_append, hss], hbase, heap_alloc_new w.drew _, by simp, by rw [List.length_append]; omega, hcm2, ?_, ?_⟩, ⟨rfl, rfl, rfl, by simp, fun k hk _ => Below.heap_alloc w.drew _ _ hk⟩⟩
    · have hz1 : (Value.int IntKind.u8 0).cells.size = 1 := rfl
      simp only [Array.size_append, List.size_toArray, size_zeroCells, hz1, hsl, hsl2]
      omega
    · simp only [Array.toList_append, List.append_assoc]
      rw [← List.append_assoc, ← hcat]
      have : (l ++ s).length = (Lib.strCells (B (l ++ s))).length := by rw [Lib.strCells_length, B_size]
      rw [this]
      exact List.take_left
theorem wpList_append_S {P : Program} {w : World} {ops : Array Oper} {rest : List Oper} {o : Oper} {a : Act} {Q : Exit → Act → World → Prop} (hgd : o.guard = none) (sl x : Operand) (t u : TypeId)
    (ho : o.op = .call { callee := .builtin .append, args := #[sl, x], argTypes := #[t, u] })
    (base : Nat) (i : TypeInfo) (ht : P.underlying t = some (.slice 5)) (hu : P.underlying u = some .string) (hi : P.info? 5 = some i) (hz : i.zero = some (.int .u8 0))
    (hsize : i.size = 1) (hby : i.bytes = 1) (v : Value) (l : List UInt8) (hs : a.eval sl = v) (hown : OwnS w base v l) (s : List UInt8) (hx : a.eval x = .string (B s)) (hb : l.length + s.length ≤ 140737488355328) (hbase : base ≤ w.heap.size)
    (h : ∀ v' w', OwnS w' base v' (l ++ s) → w.grownBy w' v.ownBlock → wpList P ops Q rest (a.put o.dst v') w') : wpList P ops Q (o :: rest) a w := by
  refine wpList_plain hgd fun K hK => ?_
  obtain ⟨v', w', hr, h2, h3⟩ := run_append_S (P := P) w base t u o.type i ht hu hi hz hsize hby v l hown s hb hbase
  unfold Oper.wp execOp
  simp only [ho, resolve, invoke, builtin, Sem.run_bind, Sem.run_pure, Result.andThen_ok, List.map_toArray, List.map_cons, List.map_nil, hs, hx, hr]
  exact hK _ _ (h v' w' h2 h3)
/-- []byte(s) -/
theorem OwnS.conv (w : World) (l : List UInt8) (h : l.length ≤ maxLen) : OwnS (Lib.bytesWorld w 5 (B l)) w.heap.size (.slice (some ⟨w.heap.size, 0, none⟩) l.length (grownCap w l.length 0 5)) l := by
  have hge := grownCap_ge w l.length 0 5
  have hsz : (Lib.bytesCells w 5 (B l)).size = grownCap w l.length 0 5 := by
    simp only [Lib.bytesCells, Array.size_append, Array.size_map, Array.size_replicate, B_size]
    have : (B l).data.size = l.length := B_size l
    omega
  refine ⟨w.heap.size, _, _, _, rfl, Nat.le_refl _, Lib.bytesWorld_at_new w _ (B l), ?_, hge, grownCap_le_maxLen w l.length 0 _ h, hsz, ?_⟩
  · intro j hj; rw [hsz]; simp only; omega
  · have e : (Lib.bytesCells w 5 (B l)).toList = Lib.strCells (B l) ++ List.replicate (grownCap w l.length 0 5 - l.length) (.int .u8 0) := by
      simp [Lib.bytesCells, Lib.strCells, B_size]
    rw [e]
    have : l.length = (Lib.strCells (B l)).length := by rw [Lib.strCells_length, B_size]
    rw [this]
    exact List.take_left
/-- string(b) -/
theorem OwnS.back {w : World} {base : Nat} {v : Value} {l : List UInt8} (h : OwnS w base v l) : (convert 49 9 v).run Try.prog w = .ok (.string (B l)) w := by
  obtain ⟨g, cap, cur, fz, rfl, hbg, hg, hfz, hnc, hcm, hcs, htake⟩ := h
  refine conv_bytes w 49 9 5 _ _ _ l Try.underlying49 Try.underlying5 Try.underlying9 rfl ?_ (fun h => by cases h)
  intro ad had j hj
  injection had with had
  subst had
  rw [addN, Nat.zero_add, cell_of_row w g j cur _ fz hg]
  have hu : (Lib.strCells (B l))[j]? = some (.int .u8 (l[j].toNat : Int)) := by rw [strCells_B, List.getElem?_map, List.getElem?_eq_getElem hj]; rfl
  rw [← htake, List.getElem?_take, if_pos hj] at hu
  simpa using hu
theorem OwnS.lt {w : World} {base : Nat} {v : Value} {l : List UInt8} (h : OwnS w base v l) : ∀ q, v.ownBlock = some q → base ≤ q ∧ q < w.heap.size := by
  obtain ⟨g, cap, cur, fz, rfl, hbg, hg, _⟩ := h
  intro q hq
  simp [Value.ownBlock] at hq
  subst hq
  exact ⟨hbg, (Array.getElem?_eq_some_iff.1 hg).1⟩
theorem OwnS.below {w w' : World} {base : Nat} {v : Value} {l : List UInt8} (h : OwnS w base v l) (k : Below w.heap.size w w') : OwnS w' base v l := by
  obtain ⟨g, cap, cur, fz, rfl, hbg, hg, r⟩ := h
  exact ⟨g, cap, cur, fz, rfl, hbg, (k.block g (Array.getElem?_eq_some_iff.1 hg).1).trans hg, r⟩
theorem ptrs_run (bb k : Nat) (h : k < 10) (w : World) : (Instr.index 57 (.agg (ptrs bb)) (.int .i64 (k : Int))).run Try.prog w = .ok (.pointer (some ⟨bb, k, none⟩)) w := by
  unfold ptrs
  rcases (show k = 0 ∨ k = 1 ∨ k = 2 ∨ k = 3 ∨ k = 4 ∨ k = 5 ∨ k = 6 ∨ k = 7 ∨ k = 8 ∨ k = 9 by omega) with rfl | rfl | rfl | rfl | rfl | rfl | rfl | rfl | rfl | rfl
  all_goals kernel_rfl
theorem nums_cell (b : Bun) (u : Value) (k : Nat) (h : k < 10) : ∃ n, (nums b)[k]? = some n ∧ (bunC b u)[k]? = some (.int .i64 n) := by
  match k, h with
  | 0, _ => exact ⟨_, rfl, rfl⟩
  | 1, _ => exact ⟨_, rfl, rfl⟩
  | 2, _ => exact ⟨_, rfl, rfl⟩
  | 3, _ => exact ⟨_, rfl, rfl⟩
  | 4, _ => exact ⟨_, rfl, rfl⟩
  | 5, _ => exact ⟨_, rfl, rfl⟩
  | 6, _ => exact ⟨_, rfl, rfl⟩
  | 7, _ => exact ⟨_, rfl, rfl⟩
  | 8, _ => exact ⟨_, rfl, rfl⟩
  | 9, _ => exact ⟨_, rfl, rfl⟩
end Go.Proofs.Ythedoidpapodgaa
