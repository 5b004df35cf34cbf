/- Storage: the closure of levels. -/
import Derived.BigQuiet
import Derived.BigRegion
import Derived.Deep.DeepCutAuto
import Derived.Deep.CutBlock
import Derived.Maps.Own
import Derived.Maps.OwnOps
import Derived.Maps.OwnSet
import Derived.Maps.Keyed
import Derived.OwnWalkIn
import Derived.Test.YtkokiahmgmeokaaGreatYa
import Derived.Test.YtkokiahmgmeokaaGreatJkz
import Derived.Test.YtkokiahmgmeokaaGreatSz
set_option linter.unusedVariables false
set_option linter.unusedSimpArgs false
namespace Go.Proofs.YtkokiahmgmeokaaGreat
open Go Go.RowKit Go.Maps Iv
attribute [local go_sem] Oper.semAt_some
attribute [local go_sem] B_getElem B_size B_app B_extract B_get B_toList

theorem law3 : Keyed Tryz.prog 3 := int_keyed Tryz.underlying3
theorem zero3 (w : World) : (zeroValue 3).run Tryz.prog w = .ok (.int .i64 0) w := by kernel_rfl
theorem infoInt : (Tryz.prog.info? 3).map (fun i => (i.zero, i.size, i.bytes)) = some (some (.int .i64 0), 1, 8) := by kernel_rfl
def ints (l : List Int) : List Value := l.map (Value.int .i64)
theorem ownsMap_at {H : Type} {P : Program} {k : TypeId} {R : Value → Option (DataW H × List MemPlace)} {w w' : World} {b n : Nat} {D : DataW H} (h : w.ownsMap P k R b n D) (e : w'.heap[b]? = w.heap[b]?) : w'.ownsMap P k R b n D := by
  obtain ⟨es, clock, hb, r⟩ := h
  exact ⟨es, clock, e.trans hb, r⟩
/-- what levels keeps: the map (block mb, in box Z), the times (box Z + 1; a row of its own from B on) -/
def LvS (B Z mb n : Nat) (D : DataW Unit) (ts : List Int) (W : World) : Prop :=
  ∃ vo, Boxed W Z 148 (.map (some mb)) ∧ W.ownsMap Tryz.prog 3 (plainElem (H := Unit) Tryz.prog 3) mb n D ∧ Boxed W (Z + 1) 22 vo ∧ W.ownsRow B 3 1 vo ts.length (ints ts) ∧ ∀ x ∈ ts, (Lit.int .i64 x).wf = true
def KpT (Z : Nat) (W W' : World) : Prop := W.heap.size ≤ W'.heap.size ∧ ∀ q cs e f, W.heap[q]? = some (.cells cs e f) → e ≠ 3 → q ≠ Z + 1 → W'.heap[q]? = W.heap[q]?
def NotePost (B Z mb n : Nat) (ts : List Int) (W : World) (e : Ending) (W' : World) : Prop :=
  e = .returned (.tuple #[]) ∧ (∃ D' ts', (ts' = ts ∨ ∃ t, ts' = ts ++ [t]) ∧ LvS B Z mb (n + 1) D' ts' W') ∧ KpT Z W W' ∧ Below mb W W'
set_option maxRecDepth 100000 in
set_option maxHeartbeats 4000000 in
theorem note_any (B Z mb n : Nat) (D : DataW Unit) (ts : List Int) (t m : Int) (W : World) (hmb : mb < Z) (hZ : Z + 1 < B) (hB : B ≤ W.heap.size) (h : LvS B Z mb n D ts W) (hn : n ≤ 5000) (hl : ts.length ≤ 5000) (ht : (Lit.int .i64 t).wf = true) :
    Calls Tryz.prog 74 #[.int .i64 t, .int .i64 m, .pointer (some ⟨Z, 0, none⟩), .pointer (some ⟨Z + 1, 0, none⟩)] W (NotePost B Z mb n ts W) := by
  obtain ⟨vo, bm, hm, bt, ow, hwf⟩ := h
  obtain ⟨va, vc, rfl⟩ := own_shape ow
  obtain ⟨i0, hin, hz0, hz1, hz2⟩ := info_parts infoInt
  have HBM := Lib.hid bm
  have HM := Lib.hid hm
  have HBT := Lib.hid bt
  have HOW := Lib.hid ow
  have HWF := Lib.hid hwf
  have cm := bm.cell
  have ct := bt.cell
  have ft := bt.frozen
  have zm := bm.lt
  have zt := bt.lt
  have hkey : keyOf Tryz.prog 3 (.int .i64 t) = some (.int .i64 t) := keyOf_int_mk Tryz.underlying3 ht
  obtain ⟨hb, hhb⟩ : ∃ q, Maps.has D (.int .i64 t) = q := ⟨_, rfl⟩
  have HB := Lib.hid hhb
  have HT := Lib.hid ht
  clear bm hm bt ow hwf hhb ht
  cases hb with
  | true =>
    go_enter Tryz.func74, Tryz.ntmps74
    go_wp2_with (first
      | (at_lookup; refine wpList_lookup_own_ok_int _ rfl _ _ 148 rfl 3 3 .i64 law3 Tryz.underlying148 Tryz.underlying3 (zero3 _) mb n D rfl HM.out _ _ rfl hkey ?_; intro c hat hwc; rw [HB.out]; clear hat hwc)
      | (at_lookup; refine wpList_lookup_own_int _ rfl _ _ 148 rfl 3 3 .i64 law3 Tryz.underlying148 Tryz.underlying3 (zero3 _) mb n D rfl HM.out _ _ rfl hkey ?_; intro c2 hat2 hwc2; clear hat2 hwc2)
      | (at_mapUpdate; refine wpList_mapUpdate_own _ rfl _ _ _ 148 rfl 3 3 law3 Tryz.underlying148 _ mb n D rfl HM.out (by unfold maxLen; omega) _ _ _ rfl rfl hkey _ [] (plainElem_int Tryz.underlying3 (wrap64_wf _)) ?_; intro w1 hown1 hg1))
    go_end0
    have hkeep : ∀ q, q < W.heap.size → q ≠ mb → w1.heap[q]? = W.heap[q]? := fun q hq hne => grown_keep hg1 hq (fun e => by injection e with e; exact hne e.symm)
    refine ⟨rfl, ⟨_, ts, .inl rfl, (.slice va ts.length vc), (hkeep Z (by omega) (by omega)).trans HBM.out, hown1, (hkeep (Z + 1) (by omega) (by omega)).trans HBT.out, own_kept1 HOW.out (fun q hq => hkeep q (HOW.out.lt q hq).2 (by have := (HOW.out.lt q hq).1; omega)), HWF.out⟩, ⟨hg1.size, fun q cs e f hq _ _ => ?_⟩, (Below.refl mb W).grown hg1 (by omega) (fun q hq => by injection hq with hq; omega)⟩
    refine hkeep q (Array.getElem?_eq_some_iff.1 hq).1 (fun e' => ?_)
    subst e'
    obtain ⟨es, clock, e1, _⟩ := HM.out
    rw [e1] at hq
    cases hq
  | false =>
    go_enter Tryz.func74, Tryz.ntmps74
    go_wp2_with (first
      | (at_lookup; refine wpList_lookup_own_ok_int _ rfl _ _ 148 rfl 3 3 .i64 law3 Tryz.underlying148 Tryz.underlying3 (zero3 _) mb n D rfl HM.out _ _ rfl hkey ?_; intro c hat hwc; rw [HB.out]; clear hat hwc)
      | (at_builtin; refine wpList_append_F _ rfl _ _ _ rfl B 3 i0 _ 1 8 Tryz.underlying22 hin hz0 hz1 hz2 rfl (by omega) (.slice va ts.length vc) ts.length (ints ts) rfl (own_kept1 HOW.out (fun q hq => Below.heap_alloc _ _ _ (HOW.out.lt q hq).2)) ⟨W.heap.size, 0, none⟩ 1 1 [.int .i64 t] rfl rfl (news_one heap_new) (by simp [Value.oneCell']) (by simp only [maxLen]; omega) (by omega) (by simp; omega) (by omega) ?_; intro vo w9 ho9 hg9 hf9; obtain ⟨av, cv, rfl⟩ := own_shape ho9; have hz9 : Z + 1 < w9.heap.size := (by have := hg9.size; simp at this; omega); have HB9 : Hid (Boxed w9 (Z + 1) 22 (.slice va ts.length vc)) := Lib.hid ((grown_keep hg9 (by simp; omega) (fun e => by have := (HOW.out.lt _ e).1; omega)).trans ((Below.heap_alloc _ _ _ (by omega)).trans HBT.out)); have c9 := HB9.out.cell; have f9 := HB9.out.frozen; have HB8 : Hid (Boxed w9 Z 148 (.map (some mb))) := Lib.hid ((grown_keep hg9 (by simp; omega) (fun e => by have := (HOW.out.lt _ e).1; omega)).trans ((Below.heap_alloc _ _ _ (by omega)).trans HBM.out)); have c8 := HB8.out.cell; have c8b : ∀ (u : Value) (o : Nat), (w9.setCell ⟨Z + 1, 0, none⟩ u).cell? ⟨Z, o, none⟩ = w9.cell? ⟨Z, o, none⟩ := (fun u o => World.cell?_of_block (heap_setCell_other w9 ⟨Z + 1, 0, none⟩ Z u (by show Z ≠ Z + 1; omega))); have HM9 : Hid ((w9.setCell ⟨Z + 1, 0, none⟩ (.slice av (ts.length + 1) cv)).ownsMap Tryz.prog 3 (plainElem (H := Unit) Tryz.prog 3) mb n D) := Lib.hid (ownsMap_at HM.out ((heap_setCell_other w9 ⟨Z + 1, 0, none⟩ mb _ (by show mb ≠ Z + 1; omega)).trans ((grown_keep hg9 (by simp; omega) (fun e => by have := (HOW.out.lt _ e).1; omega)).trans (Below.heap_alloc _ _ _ (by omega))))))
      | (at_lookup; refine wpList_lookup_own_int _ rfl _ _ 148 rfl 3 3 .i64 law3 Tryz.underlying148 Tryz.underlying3 (zero3 _) mb n D rfl HM9.out _ _ rfl hkey ?_; intro c2 hat2 hwc2; clear hat2 hwc2)
      | (at_mapUpdate; refine wpList_mapUpdate_own _ rfl _ _ _ 148 rfl 3 3 law3 Tryz.underlying148 _ mb n D rfl HM9.out (by unfold maxLen; omega) _ _ _ rfl rfl hkey _ [] (plainElem_int Tryz.underlying3 (wrap64_wf _)) ?_; intro w1 hown1 hg1))
    go_end0
    have hne : ∀ q, q ≠ Z + 1 → (w9.setCell ⟨Z + 1, 0, none⟩ (.slice av (ts.length + 1) cv)).heap[q]? = w9.heap[q]? := fun q h => heap_setCell_other w9 ⟨Z + 1, 0, none⟩ q _ h
    have hs9 : W.heap.size < w9.heap.size := by have := hg9.size; simp at this; omega
    have hkeep : ∀ q, q < w9.heap.size → q ≠ mb → w1.heap[q]? = (w9.setCell ⟨Z + 1, 0, none⟩ (.slice av (ts.length + 1) cv)).heap[q]? := fun q hq hne => grown_keep hg1 (by simp; omega) (fun e => by injection e with e; exact hne e.symm)
    have hkeep9 : ∀ q, q < W.heap.size → (Value.slice va ts.length vc).ownBlock ≠ some q → w9.heap[q]? = W.heap[q]? := fun q hq hn => (grown_keep hg9 (by simp; omega) hn).trans (Below.heap_alloc _ _ _ hq)
    have hal : Below W.heap.size W (W.alloc (.cells #[.int .i64 t] 3)) := balloc0 (Below.refl _ _)
    have hb9 : Below mb W w9 := Below.grown (hal.mono (by omega)) hg9 (by simp; omega) (fun q hq => by have := (HOW.out.lt q hq).1; omega)
    have hbs : Below mb W (w9.setCell ⟨Z + 1, 0, none⟩ (.slice av (ts.length + 1) cv)) := bset hb9 (by show mb ≤ Z + 1; omega)
    refine ⟨rfl, ⟨_, ts ++ [t], .inr ⟨_, rfl⟩, (.slice av (ts.length + 1) cv), (hkeep Z (by omega) (by omega)).trans ((hne Z (by omega)).trans HB8.out), hown1, (hkeep (Z + 1) (by omega) (by omega)).trans (HB9.out.set _), ?_, ?_⟩, ⟨by have := hg1.size; simp at this; omega, fun q cs e f hq he hqz => ?_⟩, hbs.grown hg1 (by simp; omega) (fun q hq => by injection hq with hq; omega)⟩
    · have ho : w9.ownsRow B 3 1 (.slice av (ts.length + 1) cv) (ts ++ [t]).length (ints (ts ++ [t])) := by
        rw [List.length_append]
        simpa [ints] using ho9
      refine own_kept1 ho (fun q hq => ?_)
      have h1 := ho.lt q hq
      exact (hkeep q h1.2 (by omega)).trans (hne q (by omega))
    · intro x hx
      rcases List.mem_append.1 hx with hx | hx
      · exact HWF.out x hx
      · simp at hx; subst hx; exact HT.out
    · have hql : q < W.heap.size := (Array.getElem?_eq_some_iff.1 hq).1
      refine (hkeep q (by omega) (fun e' => ?_)).trans ((hne q hqz).trans (hkeep9 q hql (fun e' => ?_)))
      · subst e'
        obtain ⟨es, clock, e1, _⟩ := HM.out
        rw [e1] at hq
        cases hq
      · obtain ⟨cur, e1⟩ := own_at HOW.out e'
        rw [hq] at e1
        injection e1 with e1
        injection e1 with _ e1 _
        exact he e1
end Go.Proofs.YtkokiahmgmeokaaGreat
