/-
  Proved: mailboatlaw14.ExtensionLoops returns true for every input, and leaves its arguments as they were. No condition.
-/
import Derived.Test.YthgokfceakbjlaaRows
import Derived.Test.YthgokfceakbjlaaJa
import Derived.Test.YthgokfceakbjlaaJn
import Derived.Test.YthgokfceakbjlaaIl
import Derived.Test.YthgokfceakbjlaaIn
import Derived.Test.YthgokfceakbjlaaIb
set_option linter.unusedVariables false
set_option linter.unusedSimpArgs false
namespace Go.Proofs.Ythgokfceakbjlaa.extensionLoops
open Go Go.ChangeShapes Go.WideShapes Go.ChangeAt Go.RowKit Go.Joins Go.Proofs.Ythgokfceakbjlaa
attribute [local go_sem] B_getElem B_size B_app B_extract B_get B_toList

theorem own : ownKnob Try.prog.godebug = none := by kernel_rfl

attribute [local go_sem] bunC
theorem tmod_fact (a m : Int) (h : 0 ≤ a) (hm : 0 < m) : ∃ r, a.tmod m = r ∧ 0 ≤ r ∧ r < m := ⟨_, rfl, by rw [Int.tmod_eq_emod_of_nonneg h]; exact Int.emod_nonneg _ (by omega), by rw [Int.tmod_eq_emod_of_nonneg h]; exact Int.emod_lt_of_pos _ hm⟩
theorem wp_store_block {P : Program} {op : Oper} {a : Act} {w : World} {K : Act → World → Prop} {Q : Exit → Act → World → Prop} (ty : TypeId) (x y : Operand) (ho : op.op = .store ty x y)
    (g : Nat) (cells cs : Array Value) (t : TypeId) (hx : a.eval x = .pointer (some ⟨g, 0, none⟩)) (hy : a.eval y = .agg cells) (hg : w.heap[g]? = some (.cells cs t (0, 0))) (hsz : cells.size = cs.size)
    (hi : (P.info? ty).map (·.size) = some cells.size) (h1 : ∀ v ∈ cells.toList, v.oneCell' = true)
    (h : ∀ W, W.heap[g]? = some (.cells cells t (0, 0)) → (∀ B, B ≤ g → Below B w W) → W.heap.size = w.heap.size → (∀ q, q ≠ g → W.heap[q]? = w.heap[q]?) → K (a.put op.dst undef) W) : op.wp P a w K Q := by
  refine wp_store_mid ty x y ho g 0 cells hx hy (fun j hj => ?_) hi (Array.all_eq_true_iff_forall_mem.2 (fun v hv => h1 v (by simpa using hv))) (h _ ?_ (fun B hB => setCells_below g _ _ _ B hB) (setCells_size g _ _ _) (fun q hq => setCells_other g q hq _ _ _))
  · rw [Nat.zero_add, cellB hg, frozenB hg]
    exact ⟨by rw [Array.getElem?_eq_getElem (by omega)]; rfl, rfl⟩
  · have := setAll_heap g t cells.toList 0 w cs hg
    rw [setAll_all (by simpa using hsz)] at this
    simpa using this
/-- a row of ints that may lie in the bundle's box, whose ints stay -/
theorem RInts.box {w W : World} {N M g : Nat} {v : Value} {l : List Int} {b : Bun} {l1 l2 : List Blk} {a1 a2 : Option Addr} {n1 n2 c1 c2 : Nat} {t1 t2 : TypeId} (h : RInts w N v l) (h1 : w.heap[g]? = some (.cells (bunC { b with blocks := l1 } (.slice a1 n1 c1)).toArray t1 (0, 0))) (h2 : W.heap[g]? = some (.cells (bunC { b with blocks := l2 } (.slice a2 n2 c2)).toArray t2 (0, 0)))
    (k : ∀ q o, q ≠ g → q < N → W.cell? ⟨q, o, none⟩ = w.cell? ⟨q, o, none⟩) (hM : N ≤ M) : RInts W M v l := by
  obtain ⟨a, c, rfl, h3, h4, h5, h6⟩ := h
  refine ⟨a, c, rfl, h3, h4, h5, fun hp => ?_⟩
  obtain ⟨q, o, e, hb, hi⟩ := h6 hp
  refine ⟨q, o, e, by omega, fun i x hx => ?_⟩
  have hc := hi i x hx
  by_cases hq : q = g
  · subst hq
    rw [cellB h1] at hc
    rw [cellB h2]
    generalize o + i = j at hc ⊢
    rcases j with _ | _ | _ | _ | _ | _ | _ | _ | _ | _ | _ | _ | j <;> simp [bunC] at hc ⊢ <;> exact hc
  · exact (k q _ hq hb).trans hc
theorem RBlks.stay {w W : World} {N M : Nat} {v : Value} {l : List Blk} (h : RBlks w N v l) (k : ∀ q, q < N → (∀ cs t, w.heap[q]? = some (.cells cs t (0, 0)) → ¬ NoBlk cs) → W.heap[q]? = w.heap[q]?) (hM : N ≤ M) : RBlks W M v l := by
  obtain ⟨a, c, rfl, h1, h2, h3, h4⟩ := h
  refine ⟨a, c, rfl, h1, h2, h3, fun hp => ?_⟩
  obtain ⟨b, o, e, hb, hi⟩ := h4 hp
  have hq := k b hb (fun cs t hc hn => by
    obtain ⟨c1, c2, c3⟩ := hi 0 l[0] (List.getElem?_eq_getElem hp)
    rw [cellB hc] at c1 c2 c3
    exact hn _ _ _ _ c1 c2 c3)
  exact ⟨b, o, e, by omega, fun i x hx => (hi i x hx).keep fun o => World.cell?_of_block hq⟩
def RU8 (w : World) (N : Nat) (v : Value) (l : List Int) : Prop :=
  ∃ a c, v = .slice a l.length c ∧ l.length ≤ c ∧ c ≤ maxLen ∧ (a = none → c = 0) ∧ (0 < l.length → ∃ b o, a = some ⟨b, o, none⟩ ∧ b < N ∧ ∀ (i : Nat) (x : Int), l[i]? = some x → w.cell? ⟨b, o + i, none⟩ = some (.int .u8 x) ∧ 0 ≤ x ∧ x ≤ 255)
/-- what the loop keeps: B is the bundle behind the nodes sn -/
def LInv (b : Bun) (el : Int) (bl : List Blk) (sn : List Int) : Prop :=
  Fits { b with blocks := bl } ∧ getS { b with blocks := bl } 1 = (if (getS b 1).2 = 0 then ([(ageS b).1 + sn.length * el], 0) else getS b 1) ∧
  getS { b with blocks := bl } 2 = (if (getS b 2).2 = 0 then ([(hopS b).1, (hopS b).2.1 + sn.length], 0) else getS b 2) ∧
  getS { b with blocks := bl } 3 = (if (getS b 3).2 = 0 then ((getS b 3).1 ++ sn, 0) else getS b 3) ∧
  ((getS b 1).2 = 0 → sn.length = 0 ∨ (ageS b).1 + sn.length * el < b.life)
theorem linv0 {b : Bun} {el : Int} (hf : Fits b) : LInv b el b.blocks [] := by
  refine ⟨hf, ?_, ?_, ?_, fun _ => .inl rfl⟩
  · split
    · rename_i z; obtain ⟨a, ha, _⟩ := get1_dec z; rw [ageS_eq ha]; simp; exact ha
    · rfl
  · split
    · rename_i z; obtain ⟨x, y, ha, _⟩ := get2_dec z; rw [hopS_eq ha]; simp; exact ha
    · rfl
  · split
    · rename_i z; rw [List.append_nil]; exact Prod.ext rfl z
    · rfl
theorem linv_step {b C : Bun} {el n : Int} {bl : List Blk} {sn : List Int} (h : LInv b el bl sn) (hw : fwdS { b with blocks := bl } n el = (C, 0)) : ∃ bl2, C = { b with blocks := bl2 } ∧ LInv b el bl2 (sn ++ [n]) ∧ ((getS b 3).2 = 0 → (getS b 3).1.contains n = false ∧ sn.contains n = false) := by
  obtain ⟨h1, h2, h3, h4, h5⟩ := h
  obtain ⟨_, ⟨bl2, rfl, _⟩, f1, f2, f3⟩ := fwd_facts hw
  obtain ⟨⟨_, _, _, _, _, _, _, w1, w2⟩, w3⟩ := fwdE_zero (fwdS_ok hw).1
  have fit := fits_fwd hw h1
  refine ⟨bl2, rfl, ⟨fit, ?_, ?_, ?_, fun z => .inr ?_⟩, fun z => ?_⟩
  · by_cases z : (getS b 1).2 = 0
    · rw [if_pos z] at h2 ⊢
      rw [h2, if_pos rfl, ageS_eq h2] at f1
      rw [f1]
      simp only [List.length_append, List.length_singleton]
      congr 2
      push_cast
      rw [Int.add_mul]
      omega
    · rw [if_neg z] at h2 ⊢
      rw [h2, if_neg z] at f1
      exact f1
  · by_cases z : (getS b 2).2 = 0
    · rw [if_pos z] at h3 ⊢
      rw [h3, if_pos rfl, hopS_eq h3] at f2
      rw [f2]
      simp only [List.length_append, List.length_singleton]
      congr 3
      push_cast
      omega
    · rw [if_neg z] at h3 ⊢
      rw [h3, if_neg z] at f2
      exact f2
  · by_cases z : (getS b 3).2 = 0
    · rw [if_pos z] at h4 ⊢
      rw [h4, if_pos rfl] at f3
      rw [f3, List.append_assoc]
    · rw [if_neg z] at h4 ⊢
      rw [h4, if_neg z] at f3
      exact f3
  · rw [if_pos z] at h2
    have := w1 (by rw [h2])
    rw [ageS_eq h2] at this
    simp only at this
    simp only [List.length_append, List.length_singleton]
    push_cast
    rw [Int.add_mul]
    omega
  · rw [if_pos z] at h4
    have := w3 (by rw [h4])
    rw [h4] at this
    simp only [List.contains_eq_mem, decide_eq_false_iff_not, List.mem_append, not_or] at this ⊢
    exact this
section
variable {H : Type} {enc : TypeId × Value → H} {w : World} {base : Nat} {spare : Nat → Bool} {held : Bool}
set_option maxRecDepth 100000 in
theorem open_u8s_arg {r : Reach} {b0 : Nat} {v : Value} {d : DataW H} {p : List MemPlace} (hv : Value.okWide Try.prog w r b0 51 v) (h : DataW.Trod enc Try.prog w base spare held 51 v d p) :
    ∃ l : List Int, RU8 w w.heap.size v l := by
  obtain ⟨a', n', c', rfl⟩ := okWide_slice Try.underlying51 hv
  obtain ⟨fuel, hf⟩ := h
  rcases Go.Deep.open_slice Try.underlying51 hf with ⟨e, _⟩ | ⟨a, len, cap, m, n, D, Pl, e, hb, hl, hm, hmm, _, hi⟩
  · simp [Value.cells] at e
    obtain ⟨rfl, rfl, rfl⟩ := e
    exact ⟨[], none, 0, rfl, Nat.le_refl _, by simp, fun _ => rfl, fun h => by simp at h⟩
  · simp [Value.cells] at e
    obtain ⟨rfl, rfl, rfl⟩ := e
    have hc : Try.prog.cellsOf 5 = 1 := by kernel_rfl
    rw [hc] at hi
    obtain ⟨l, hll, hlp⟩ := choose_lt' (α := Int) (n := n') (p := fun i x => w.cell? (a.add i) = some (.int .u8 x) ∧ 0 ≤ x ∧ x ≤ 255) fun i hil => by
      obtain ⟨cs', h1, h2⟩ := hi i (by rw [hmm]; split <;> omega)
      obtain ⟨x, rfl, _, hwf⟩ := DataW.trod_int Try.underlying5 h2
      obtain ⟨_, _, h3⟩ := World.cells?_some h1
      refine ⟨x, ?_, ?_⟩
      · have := h3 0 (by omega)
        rw [Go.Deep.add_add, Nat.mul_one, Nat.add_zero] at this
        simpa using this
      · simp [Lit.wf, IntKind.min, IntKind.max, IntKind.signed, IntKind.bits] at hwf; omega
    refine ⟨l, some a, c', by rw [hll], by omega, hm, (fun h => by cases h), fun hp => ?_⟩
    obtain ⟨x, hx⟩ : ∃ x, l[0]? = some x := ⟨_, List.getElem?_eq_getElem hp⟩
    have h0 := (hlp 0 x hx).1
    obtain ⟨ab, ao, asp⟩ := a
    have hs : asp = none ∧ ab < w.heap.size := by
      unfold World.cell? at h0
      simp only [Addr.add, Nat.add_zero] at h0
      have hz : ab < w.heap.size := by
        apply Classical.byContradiction
        intro hn
        have : w.heap[ab]? = none := by simp; omega
        simp [this] at h0
      refine ⟨?_, hz⟩
      cases asp with
      | none => rfl
      | some s =>
        exfalso
        revert h0
        simp
        split <;> simp
    obtain ⟨rfl, hz⟩ := hs
    refine ⟨ab, ao, rfl, hz, fun i x hx => ?_⟩
    have := hlp i x hx
    rwa [addN] at this
end
set_option maxRecDepth 100000 in
set_option maxHeartbeats 16000000 in
theorem walkL (b : Bun) (u : Value) (ns : List Int) (nv : Value) (el : Int) (w : World) (hr : RBlks w w.heap.size u b.blocks) (hf : Fits b) (hn : RU8 w w.heap.size nv ns) (we : 0 ≤ el ∧ el ≤ 65535) (hlen : 20 < ns.length) :
    Calls Try.prog 8 #[.agg (bunC b u).toArray, nv, .int .u16 el] w (Says w) := by
  obtain ⟨ua, uc, rfl, _⟩ := id hr
  have HR := Lib.hid hr
  have HF := Lib.hid hf
  have HN := Lib.hid hn
  clear hr hf
  obtain ⟨na, nc, rfl, _⟩ := id hn
  have hl2 : (20 : Int) < (ns.length : Int) := by omega
  clear hn
  go_enter Try.func8, Try.ntmps8
  simp only [bunC]
  go_wp2_with fail
  refine (bgreat_any b _ _ (HR.out.below' (balloc0 (Below.refl _ _))) HF.out).mono ?_
  rintro e w1 ⟨g, rfl, hb1⟩
  have hB1 : Below w.heap.size w w1 := btrans0 (balloc0 (Below.refl _ _)) hb1
  have y1 := hb1.size
  (try simp at y1)
  have zb1 : w.heap.size < w1.heap.size := by omega
  have Ab : w1.heap[w.heap.size]? = some (.cells (bunC b (.slice ua b.blocks.length uc)).toArray 28 (0, 0)) := (hb1.block _ (by first | exact zb0 | (simp; done) | (simp; omega) | omega)).trans (by repeat (first | exact HAb.out | exact heap_new | exact heap_new' (by first | rfl | (simp; done)) | refine (Below.heap_alloc _ _ _ (by first | omega | (simp; done) | (simp; omega))).trans ?_))
  have cab := fun o => cellB Ab o
  have HAb := Lib.hid Ab
  (try simp only [bunC] at cab)
  clear Ab
  clear hb1
  cases g
  case true =>
    go_wp2_with fail
    refine (awake_any _).mono ?_
    rintro e w99 ⟨rfl, hb99⟩
    go_wp2
    go_ret
    exact ⟨rfl, (by repeat' (first | with_reducible (first | refine bset ?_ ?_ | exact Below.refl _ _ | assumption | refine bdrewN ?_ _ | refine bdrew ?_ | refine balloc0 ?_ | refine balloc ?_ ?_ | (apply btrans0; rotate_left; assumption) | (apply btrans; rotate_left; assumption)) | exact Below.refl _ _ | assumption | (apply btrans0; rotate_left; assumption) | (apply btrans; rotate_left; assumption) | (simp; done) | omega | (simp; omega)))⟩
  go_wp2_with fail
  refine (awake_any _).mono ?_
  rintro e w99 ⟨rfl, hb99⟩
  go_wp2
  go_ret
  exact ⟨rfl, (by repeat' (first | with_reducible (first | refine bset ?_ ?_ | exact Below.refl _ _ | assumption | refine bdrewN ?_ _ | refine bdrew ?_ | refine balloc0 ?_ | refine balloc ?_ ?_ | (apply btrans0; rotate_left; assumption) | (apply btrans; rotate_left; assumption)) | exact Below.refl _ _ | assumption | (apply btrans0; rotate_left; assumption) | (apply btrans; rotate_left; assumption) | (simp; done) | omega | (simp; omega)))⟩
set_option maxRecDepth 100000 in
set_option maxHeartbeats 16000000 in
theorem walkM (b : Bun) (u : Value) (ns : List Int) (nv : Value) (el : Int) (w : World) (hr : RBlks w w.heap.size u b.blocks) (hf : Fits b) (hn : RU8 w w.heap.size nv ns) (we : 0 ≤ el ∧ el ≤ 65535) (hlen : ns.length ≤ 20) :
    Calls Try.prog 8 #[.agg (bunC b u).toArray, nv, .int .u16 el] w (Says w) := by
  obtain ⟨ua, uc, rfl, _⟩ := id hr
  have HR := Lib.hid hr
  have HF := Lib.hid hf
  have HN := Lib.hid hn
  clear hr hf
  obtain ⟨na, nc, rfl, n2, n3, n4, n5⟩ := id hn
  unfold maxLen at n3
  have HN5 := Lib.hid n5
  obtain ⟨we1, we2⟩ := we
  have hl2 : ¬ (20 : Int) < (ns.length : Int) := by omega
  obtain ⟨⟨a1, ea⟩, hag⟩ : ∃ q, ageS b = q := ⟨_, rfl⟩
  obtain ⟨⟨lim, cnt, eh⟩, hho⟩ : ∃ q, hopS b = q := ⟨_, rfl⟩
  obtain ⟨⟨lv, ev⟩, hg⟩ : ∃ q, getS b 3 = q := ⟨_, rfl⟩
  have HAG := Lib.hid hag
  have HHO := Lib.hid hho
  have HG := Lib.hid hg
  have hlv := (visB_facts (get3_vis hg)).1
  obtain ⟨i0, hin, hz0, hz1, hz2⟩ := info_parts infoInt
  clear hn n4 n5 hag hho hg
  go_enter Try.func8, Try.ntmps8
  simp only [bunC]
  go_wp2_with fail
  refine (bgreat_any b _ _ (HR.out.below' (balloc0 (Below.refl _ _))) HF.out).mono ?_
  rintro e w1 ⟨g, rfl, hb1⟩
  have hB1 : Below w.heap.size w w1 := btrans0 (balloc0 (Below.refl _ _)) hb1
  have y1 := hb1.size
  (try simp at y1)
  have zb1 : w.heap.size < w1.heap.size := by omega
  have Ab : w1.heap[w.heap.size]? = some (.cells (bunC b (.slice ua b.blocks.length uc)).toArray 28 (0, 0)) := (hb1.block _ (by first | exact zb0 | (simp; done) | (simp; omega) | omega)).trans (by repeat (first | exact HAb.out | exact heap_new | exact heap_new' (by first | rfl | (simp; done)) | refine (Below.heap_alloc _ _ _ (by first | omega | (simp; done) | (simp; omega))).trans ?_))
  have cab := fun o => cellB Ab o
  have HAb := Lib.hid Ab
  (try simp only [bunC] at cab)
  clear Ab
  clear hb1
  cases g
  case true =>
    go_wp2_with fail
    refine (awake_any _).mono ?_
    rintro e w99 ⟨rfl, hb99⟩
    go_wp2
    go_ret
    exact ⟨rfl, (by repeat' (first | with_reducible (first | refine bset ?_ ?_ | exact Below.refl _ _ | assumption | refine bdrewN ?_ _ | refine bdrew ?_ | refine balloc0 ?_ | refine balloc ?_ ?_ | (apply btrans0; rotate_left; assumption) | (apply btrans; rotate_left; assumption)) | exact Below.refl _ _ | assumption | (apply btrans0; rotate_left; assumption) | (apply btrans; rotate_left; assumption) | (simp; done) | omega | (simp; omega)))⟩
  go_wp2_with fail
  refine (hops_any b _ _ (HR.out.below' (hB1)) HF.out).mono ?_
  rw [HHO.out]
  simp only
  rintro e w2 ⟨rfl, hb2⟩
  have hB2 : Below w.heap.size w w2 := btrans0 (hB1) hb2
  have y2 := hb2.size
  (try simp at y2)
  have zb2 : w.heap.size < w2.heap.size := by omega
  have Ab : w2.heap[w.heap.size]? = some (.cells (bunC b (.slice ua b.blocks.length uc)).toArray 28 (0, 0)) := (hb2.block _ (by first | exact zb1 | (simp; done) | (simp; omega) | omega)).trans (by repeat (first | exact HAb.out | exact heap_new | exact heap_new' (by first | rfl | (simp; done)) | refine (Below.heap_alloc _ _ _ (by first | omega | (simp; done) | (simp; omega))).trans ?_))
  clear cab HAb
  have cab := fun o => cellB Ab o
  have HAb := Lib.hid Ab
  (try simp only [bunC] at cab)
  clear Ab
  clear hb2
  go_wp2_with fail
  refine (visited_any b _ _ (HR.out.below' (hB2)) HF.out).mono ?_
  unfold GetPost
  rw [HG.out]
  simp only
  rintro e w3 ⟨v3, rfl, hb3, hri⟩
  have hB3 : Below w.heap.size w w3 := btrans0 (hB2) hb3
  have y3 := hb3.size
  (try simp at y3)
  have zb3 : w.heap.size < w3.heap.size := by omega
  have Ab : w3.heap[w.heap.size]? = some (.cells (bunC b (.slice ua b.blocks.length uc)).toArray 28 (0, 0)) := (hb3.block _ (by first | exact zb2 | (simp; done) | (simp; omega) | omega)).trans (by repeat (first | exact HAb.out | exact heap_new | exact heap_new' (by first | rfl | (simp; done)) | refine (Below.heap_alloc _ _ _ (by first | omega | (simp; done) | (simp; omega))).trans ?_))
  clear cab HAb
  have cab := fun o => cellB Ab o
  have HAb := Lib.hid Ab
  (try simp only [bunC] at cab)
  clear Ab
  have HI3 := Lib.hid hri
  clear hri
  clear hb3
  go_wp2_with fail
  refine (age_any b _ _ (HR.out.below' (hB3)) HF.out).mono ?_
  rw [HAG.out]
  simp only
  rintro e w4 ⟨rfl, hb4⟩
  have hB4 : Below w.heap.size w w4 := btrans0 (hB3) hb4
  have hK3_4 : Below w3.heap.size w3 w4 := btrans0 (Below.refl _ _) hb4
  have y4 := hb4.size
  (try simp at y4)
  have zb4 : w.heap.size < w4.heap.size := by omega
  have Ab : w4.heap[w.heap.size]? = some (.cells (bunC b (.slice ua b.blocks.length uc)).toArray 28 (0, 0)) := (hb4.block _ (by first | exact zb3 | (simp; done) | (simp; omega) | omega)).trans (by repeat (first | exact HAb.out | exact heap_new | exact heap_new' (by first | rfl | (simp; done)) | refine (Below.heap_alloc _ _ _ (by first | omega | (simp; done) | (simp; omega))).trans ?_))
  clear cab HAb
  have cab := fun o => cellB Ab o
  have HAb := Lib.hid Ab
  (try simp only [bunC] at cab)
  clear Ab
  clear hb4
  go_wp2
  go_loopw [49, 14, 15] (fun i dn sv wr => ∃ (k : Nat) (bl : List Blk) (sn : List Int) (a : Option Addr) (c : Nat), i = .int .i64 k ∧ dn = .int .i64 (sn.length : Nat) ∧ k ≤ ns.length ∧ sn.length ≤ k ∧ Hid (wr.heap[w.heap.size]? = some (.cells (bunC { b with blocks := bl } (.slice a bl.length c)).toArray 28 (0, 0))) ∧ Hid (RBlks wr wr.heap.size (.slice a bl.length c) bl) ∧ Hid (LInv b el bl sn) ∧ Hid (OwnI wr w4.heap.size sv sn) ∧ Hid (RInts wr w4.heap.size v3 lv) ∧ Below w.heap.size w wr ∧ w4.heap.size ≤ wr.heap.size) (fun i _ _ _ => ns.length - (intOf i).toNat)
  case atStart => exact ⟨0, b.blocks, [], ua, uc, rfl, rfl, by omega, Nat.le_refl _, Lib.hid HAb.out, Lib.hid (HR.out.below' hB4), Lib.hid (linv0 HF.out), Lib.hid (OwnI.nil _ _), Lib.hid (HI3.out.below' hK3_4), hB4, Nat.le_refl _⟩
  case round =>
    obtain ⟨k, bl, sn, a, c, rfl, rfl, hk, hsn, HA, HBL, HI, HO, HL, hB, hsz⟩ := hrel
    have zb : w.heap.size < wr.heap.size := by omega
    clear cab HAb
    have ca := fun o => cellB HA.out o
    have fa := fun o => frozenB HA.out o
    simp only [bunC] at ca
    have k0 : (0 : Int) ≤ (k : Int) := by omega
    by_cases hlt : k < ns.length
    · obtain ⟨qb, qo, rfl, hbn, hcell⟩ := HN5.out (by omega)
      obtain ⟨x, hx⟩ : ∃ x, ns[k]? = some x := ⟨_, List.getElem?_eq_getElem hlt⟩
      obtain ⟨c1, x0, x1⟩ := hcell k x hx
      have c1 := (hB.cell (p := ⟨qb, qo + k, none⟩) hbn).trans c1
      have k1 : (k : Int) < (ns.length : Int) := by omega
      obtain ⟨r1, hr1, r1a, r1b⟩ := tmod_fact x 16 x0 (by omega)
      obtain ⟨⟨C, CE⟩, hfw⟩ : ∃ q, fwdS { b with blocks := bl } r1 el = q := ⟨_, rfl⟩
      have HFW := Lib.hid hfw
      have fb := HI.out.1
      clear hcell hx
      by_cases hce : CE = 0
      case neg =>
        have q2 : (CE != 0) = true := by rw [bne_iff_ne]; exact hce
        clear hfw hce
        go_wp2_with fail
        refine (forward_any { b with blocks := bl } _ r1 el _ HBL.out fb).mono ?_
        unfold FwdPost
        rw [HFW.out]
        simp only
        rintro e w5 ⟨v5, rfl, hv5, hb5⟩
        obtain ⟨va5, vc5, rfl, _⟩ := id hv5
        clear hv5
        have hB5 : Below w.heap.size w w5 := btrans hB hb5 (by omega)
        have y5 := hb5.size
        have A5 := (hb5.block _ zb).trans HA.out
        have HO5 := Lib.hid (HO.out.keep (fun g _ hg => hb5.block g hg))
        have HL5 := Lib.hid (HL.out.keep (fun q o hq => hb5.cell (p := ⟨q, o, none⟩) (by show q < wr.heap.size; omega)) (Nat.le_refl _))
        have HB5 := Lib.hid (HBL.out.below' hb5)
        clear ca fa
        simp only [bunC]
        go_wp2
        go_roundw
        case rel => exact ⟨k + 1, bl, sn, a, c, by go_num, rfl, by omega, by omega, Lib.hid ((Below.heap_alloc _ _ _ (by omega)).trans A5), Lib.hid (HB5.out.below' (balloc0 (Below.refl _ _))), HI, Lib.hid (HO5.out.keep (fun g _ hg => Below.heap_alloc _ _ _ hg)), Lib.hid (HL5.out.keep (fun q o hq => World.cell?_alloc_lt _ _ _ (by show q < w5.heap.size; omega)) (Nat.le_refl _)), balloc0 hB5, by simp; omega⟩
        case measure => simp [intOf]; omega
      subst hce
      obtain ⟨bl2, rfl, hinv, hcon⟩ := linv_step HI.out hfw
      have HINV := Lib.hid hinv
      have hg3 : (getS b 3).2 = ev := by rw [HG.out]
      rw [hg3, HG.out] at hcon
      have HCON := Lib.hid hcon
      clear hfw hinv hcon hg3
      go_wp2_with fail
      refine (forward_any { b with blocks := bl } _ r1 el _ HBL.out fb).mono ?_
      unfold FwdPost
      rw [HFW.out]
      simp only
      rintro e w5 ⟨v5, rfl, hv5, hb5⟩
      obtain ⟨va5, vc5, rfl, _⟩ := id hv5
      have HV5 := Lib.hid hv5
      clear hv5
      have hB5 : Below w.heap.size w w5 := btrans hB hb5 (by omega)
      have y5 := hb5.size
      have A5 := (hb5.block _ zb).trans HA.out
      have hsp := Sep.box HV5.out A5 (noBlk_bun _ _ _ _)
      have HO5 := Lib.hid (HO.out.keep (fun g _ hg => hb5.block g hg))
      have HL5 := Lib.hid (HL.out.keep (fun q o hq => hb5.cell (p := ⟨q, o, none⟩) (by show q < wr.heap.size; omega)) (Nat.le_refl _))
      have HA5 := Lib.hid A5
      have HSP := Lib.hid hsp
      have hri := HO5.out.ints
      have HRI := Lib.hid hri
      clear ca fa A5 hsp hri
      simp only [bunC]
      by_cases hev : ev = 0
      case pos =>
        subst hev
        obtain ⟨hc1, hc2⟩ := HCON.out rfl
        have HC1 := Lib.hid hc1
        have HC2 := Lib.hid hc2
        clear hc1 hc2
        go_wp2_with fail
        refine (contains_any lv _ r1 _ (HL5.out.keep (fun q o hq => World.cell?_alloc_lt _ _ _ (by show q < w5.heap.size; omega)) (by simp; omega))).mono ?_
        rw [HC1.out]
        rintro e w6 ⟨rfl, hw6⟩
        subst hw6
        go_wp2_with fail
        refine (contains_any sn _ r1 _ (HRI.out.below' (balloc0 (Below.refl _ _)))).mono ?_
        rw [HC2.out]
        rintro e w6 ⟨rfl, hw6⟩
        subst hw6
        go_wp2
        have AC : (w5.alloc (.cells (bunC { b with blocks := bl2 } (.slice va5 bl2.length vc5)).toArray 28)).heap[w5.heap.size]? = some (.cells (bunC { b with blocks := bl2 } (.slice va5 bl2.length vc5)).toArray 28 (0, 0)) := heap_new
        have AB : (w5.alloc (.cells (bunC { b with blocks := bl2 } (.slice va5 bl2.length vc5)).toArray 28)).heap[w.heap.size]? = _ := (Below.heap_alloc _ _ _ (by omega)).trans HA5.out
        have O9 := OwnI.keep (w' := (w5.alloc (.cells (bunC { b with blocks := bl2 } (.slice va5 bl2.length vc5)).toArray 28))) HO5.out (fun g _ hg => Below.heap_alloc _ _ _ hg)
        have L9 := RInts.keep (w' := (w5.alloc (.cells (bunC { b with blocks := bl2 } (.slice va5 bl2.length vc5)).toArray 28))) HL5.out (fun q o hq => World.cell?_alloc_lt _ _ _ (by show q < w5.heap.size; omega)) (Nat.le_refl _)
        have V9 := HV5.out.below' (balloc0 (o := .cells (bunC { b with blocks := bl2 } (.slice va5 bl2.length vc5)).toArray 28) (Below.refl _ _))
        have B9 : Below w.heap.size w (w5.alloc (.cells (bunC { b with blocks := bl2 } (.slice va5 bl2.length vc5)).toArray 28)) := balloc0 hB5
        have z9 : (w5.alloc (.cells (bunC { b with blocks := bl2 } (.slice va5 bl2.length vc5)).toArray 28)).heap.size = w5.heap.size + 1 := by simp
        simp only [bunC] at AC AB O9 L9 V9 B9 z9
        generalize w5.alloc (.cells _ _) = W9 at *
        have HAC := Lib.hid AC
        have HAB := Lib.hid AB
        have HO9 := Lib.hid O9
        have HL9 := Lib.hid L9
        have HV9 := Lib.hid V9
        clear AC AB O9 L9 V9
        refine wp_region_plan (fun V => V.heap[w5.heap.size]? = some (.cells #[.int .i64 b.src, .int .i64 b.crt, .int .i64 b.seq, .int .i64 b.off, .int .i64 b.tot, .int .i64 b.dk, .int .i64 b.dn, .int .i64 b.life, .int .i64 b.prio, .int .i64 b.flags, .slice va5 bl2.length vc5, .string (B b.payload)] 28 (0, 0))) [1, 0, 0, 0, 0, 2, 2, 3, 0, 0] [0, 1, 2, 3, 4, 5, 6, 7, 8, 9] (by kernel_rfl) (by kernel_rfl) ?_ ?_
        case refine_1 => exact HAC.out
        (refine plan_held rfl (by decide) (by rfl) (fun w1 hS => by have cS := fun o => cellB (hS rfl) o; go_simp; rfl) ?_; (try simp only [Act.put, List.setIfInBounds_toArray, List.set_cons_zero, List.set_cons_succ]))
        (iterate 4 (refine plan_held rfl (by decide) (by rfl) (fun w1 hS => by go_simp; rfl) ?_; (try simp only [Act.put, List.setIfInBounds_toArray, List.set_cons_zero, List.set_cons_succ])))
        (refine plan_keep rfl rfl (by rfl) (fun K hK => ?_); go_simp)
        (refine hK _ _ (by exact (Below.heap_alloc _ _ _ (by first | omega | (simp; omega))).trans HAC.out) ?_; clear hK K; (try simp only [Act.put, List.setIfInBounds_toArray, List.set_cons_zero, List.set_cons_succ]))
        refine plan_keep rfl rfl (by rfl) (fun K hK => ?_)
        refine wp_append_I _ _ rfl w4.heap.size _ sn r1 ⟨w5.heap.size + 1, 0, none⟩ rfl (HO9.out.keep (fun g _ hg => Below.heap_alloc _ _ _ (by simpa using hg))) rfl (by rw [← z9]; exact cellB (w := (W9.alloc (.cells #[.int .i64 r1] 3)).drew) heap_new 0) (by omega) (by first | omega | (simp; omega)) ?_
        intro v8 w8 hO8 hg8
        have ne1 : ∀ q, (q = w.heap.size ∨ q = w5.heap.size ∨ q < w4.heap.size) → some q ≠ Value.ownBlock _ := fun q hq e => by
          have := HO5.out.1.lt q e.symm
          omega
        have A8c := (hg8.block w5.heap.size (by first | omega | (simp; omega)) (ne1 _ (.inr (.inl rfl)))).trans ((Below.heap_alloc W9 _ _ (by first | omega | (simp; omega))).trans HAC.out)
        have A8b := (hg8.block w.heap.size (by first | omega | (simp; omega)) (ne1 _ (.inl rfl))).trans ((Below.heap_alloc W9 _ _ (by first | omega | (simp; omega))).trans HAB.out)
        have s8 : W9.heap.size + 1 ≤ w8.heap.size := by have := hg8.size; simpa using this
        have B8 : Below w.heap.size w w8 := (bdrew (balloc B9 (by omega))).grown hg8 (by first | omega | (simp; omega)) (fun q hq => by have := HO5.out.1.lt q hq; omega)
        have HO8 := Lib.hid hO8
        have HG8 := Lib.hid hg8
        have HB8 := Lib.hid A8b
        refine hK _ _ A8c ?_
        clear hK K hO8 hg8 A8b A8c
        (try simp only [Act.put, List.setIfInBounds_toArray, List.set_cons_zero, List.set_cons_succ])
        refine plan_late rfl rfl (by rfl) (fun K hK => ?_)
        refine wp_store_block 28 _ _ rfl w.heap.size #[.int .i64 b.src, .int .i64 b.crt, .int .i64 b.seq, .int .i64 b.off, .int .i64 b.tot, .int .i64 b.dk, .int .i64 b.dn, .int .i64 b.life, .int .i64 b.prio, .int .i64 b.flags, .slice va5 bl2.length vc5, .string (B b.payload)] _ 28 rfl rfl HB8.out rfl (by kernel_rfl) (by simp [Value.oneCell']) ?_
        intro W hW hbW hsW hoW
        refine hK _ _ ?_
        clear hK K
        (try simp only [Act.put, List.setIfInBounds_toArray, List.set_cons_zero, List.set_cons_succ])
        (iterate 2 (refine plan_held rfl (by decide) (by rfl) (fun w1 hS => by go_simp; rfl) ?_; (try simp only [Act.put, List.setIfInBounds_toArray, List.set_cons_zero, List.set_cons_succ])))
        refine plan_done ?_
        have HW := Lib.hid hW
        have hBW : Below w.heap.size w W := B8.trans (hbW _ (Nat.le_refl _))
        have HVW : Hid (RBlks W W.heap.size (.slice va5 bl2.length vc5) bl2) := Lib.hid (RBlks.stay HV9.out (fun q hq hc => by
          have q1 : q ≠ w.heap.size := fun e => hc _ _ (by rw [e]; exact HAB.out) noBlk12
          refine (hoW q q1).trans ((HG8.out.block q (by first | omega | (simp; omega)) (fun e => ?_)).trans (Below.heap_alloc W9 _ _ (by simpa using hq)))
          rcases HO9.out.1.2 with ⟨e2, _⟩ | ⟨g', cap', cur', e2, _⟩
          · rw [e2] at e; cases e
          · rw [e2] at e
            obtain rfl : q = g' := Option.some.inj e
            obtain ⟨cur, h1, h2⟩ := HO9.out.2 _ _ _ _ e2
            exact hc _ _ h1 (noBlk_ints h2)) (by omega))
        have HLW : Hid (RInts W w4.heap.size v3 lv) := Lib.hid (RInts.box (l1 := bl) (l2 := bl2) HL9.out HAB.out hW (fun q o q1 hq => World.cell?_of_block ((hoW q q1).trans ((HG8.out.block q (by first | omega | (simp; omega)) (ne1 q (.inr (.inr hq)))).trans (Below.heap_alloc W9 _ _ (by first | omega | (simp; omega)))))) (Nat.le_refl _))
        have HOW := Lib.hid (HO8.out.keep (w' := W) (fun g hg _ => hoW g (by omega)))
        have szW : w4.heap.size ≤ W.heap.size := by rw [hsW]; omega
        clear hW hbW hoW hsW
        go_wp2
        have hwn : IntKind.i64.wrap ((sn.length : Int) + 1) = ((sn.length + 1 : Nat) : Int) := by rw [IntKind.wrap_i64]; omega
        go_roundw
        case rel => exact ⟨k + 1, bl2, sn ++ [r1], va5, vc5, by go_num, by rw [List.length_append, List.length_singleton, hwn], by omega, by rw [List.length_append, List.length_singleton]; omega, HW, HVW, HINV, HOW, HLW, hBW, szW⟩
        case measure => simp [intOf]; omega
      have qev : (ev == 0) = false := beq_eq_false_iff_ne.2 hev
      go_wp2
      have AC : (w5.alloc (.cells (bunC { b with blocks := bl2 } (.slice va5 bl2.length vc5)).toArray 28)).heap[w5.heap.size]? = some (.cells (bunC { b with blocks := bl2 } (.slice va5 bl2.length vc5)).toArray 28 (0, 0)) := heap_new
      have AB : (w5.alloc (.cells (bunC { b with blocks := bl2 } (.slice va5 bl2.length vc5)).toArray 28)).heap[w.heap.size]? = _ := (Below.heap_alloc _ _ _ (by omega)).trans HA5.out
      have O9 := OwnI.keep (w' := (w5.alloc (.cells (bunC { b with blocks := bl2 } (.slice va5 bl2.length vc5)).toArray 28))) HO5.out (fun g _ hg => Below.heap_alloc _ _ _ hg)
      have L9 := RInts.keep (w' := (w5.alloc (.cells (bunC { b with blocks := bl2 } (.slice va5 bl2.length vc5)).toArray 28))) HL5.out (fun q o hq => World.cell?_alloc_lt _ _ _ (by show q < w5.heap.size; omega)) (Nat.le_refl _)
      have V9 := HV5.out.below' (balloc0 (o := .cells (bunC { b with blocks := bl2 } (.slice va5 bl2.length vc5)).toArray 28) (Below.refl _ _))
      have B9 : Below w.heap.size w (w5.alloc (.cells (bunC { b with blocks := bl2 } (.slice va5 bl2.length vc5)).toArray 28)) := balloc0 hB5
      have z9 : (w5.alloc (.cells (bunC { b with blocks := bl2 } (.slice va5 bl2.length vc5)).toArray 28)).heap.size = w5.heap.size + 1 := by simp
      simp only [bunC] at AC AB O9 L9 V9 B9 z9
      generalize w5.alloc (.cells _ _) = W9 at *
      have HAC := Lib.hid AC
      have HAB := Lib.hid AB
      have HO9 := Lib.hid O9
      have HL9 := Lib.hid L9
      have HV9 := Lib.hid V9
      clear AC AB O9 L9 V9
      refine wp_region_plan (fun V => V.heap[w5.heap.size]? = some (.cells #[.int .i64 b.src, .int .i64 b.crt, .int .i64 b.seq, .int .i64 b.off, .int .i64 b.tot, .int .i64 b.dk, .int .i64 b.dn, .int .i64 b.life, .int .i64 b.prio, .int .i64 b.flags, .slice va5 bl2.length vc5, .string (B b.payload)] 28 (0, 0))) [1, 0, 0, 0, 0, 2, 2, 3, 0, 0] [0, 1, 2, 3, 4, 5, 6, 7, 8, 9] (by kernel_rfl) (by kernel_rfl) ?_ ?_
      case refine_1 => exact HAC.out
      (refine plan_held rfl (by decide) (by rfl) (fun w1 hS => by have cS := fun o => cellB (hS rfl) o; go_simp; rfl) ?_; (try simp only [Act.put, List.setIfInBounds_toArray, List.set_cons_zero, List.set_cons_succ]))
      (iterate 4 (refine plan_held rfl (by decide) (by rfl) (fun w1 hS => by go_simp; rfl) ?_; (try simp only [Act.put, List.setIfInBounds_toArray, List.set_cons_zero, List.set_cons_succ])))
      (refine plan_keep rfl rfl (by rfl) (fun K hK => ?_); go_simp)
      (refine hK _ _ (by exact (Below.heap_alloc _ _ _ (by first | omega | (simp; omega))).trans HAC.out) ?_; clear hK K; (try simp only [Act.put, List.setIfInBounds_toArray, List.set_cons_zero, List.set_cons_succ]))
      refine plan_keep rfl rfl (by rfl) (fun K hK => ?_)
      refine wp_append_I _ _ rfl w4.heap.size _ sn r1 ⟨w5.heap.size + 1, 0, none⟩ rfl (HO9.out.keep (fun g _ hg => Below.heap_alloc _ _ _ (by simpa using hg))) rfl (by rw [← z9]; exact cellB (w := (W9.alloc (.cells #[.int .i64 r1] 3)).drew) heap_new 0) (by omega) (by first | omega | (simp; omega)) ?_
      intro v8 w8 hO8 hg8
      have ne1 : ∀ q, (q = w.heap.size ∨ q = w5.heap.size ∨ q < w4.heap.size) → some q ≠ Value.ownBlock _ := fun q hq e => by
        have := HO5.out.1.lt q e.symm
        omega
      have A8c := (hg8.block w5.heap.size (by first | omega | (simp; omega)) (ne1 _ (.inr (.inl rfl)))).trans ((Below.heap_alloc W9 _ _ (by first | omega | (simp; omega))).trans HAC.out)
      have A8b := (hg8.block w.heap.size (by first | omega | (simp; omega)) (ne1 _ (.inl rfl))).trans ((Below.heap_alloc W9 _ _ (by first | omega | (simp; omega))).trans HAB.out)
      have s8 : W9.heap.size + 1 ≤ w8.heap.size := by have := hg8.size; simpa using this
      have B8 : Below w.heap.size w w8 := (bdrew (balloc B9 (by omega))).grown hg8 (by first | omega | (simp; omega)) (fun q hq => by have := HO5.out.1.lt q hq; omega)
      have HO8 := Lib.hid hO8
      have HG8 := Lib.hid hg8
      have HB8 := Lib.hid A8b
      refine hK _ _ A8c ?_
      clear hK K hO8 hg8 A8b A8c
      (try simp only [Act.put, List.setIfInBounds_toArray, List.set_cons_zero, List.set_cons_succ])
      refine plan_late rfl rfl (by rfl) (fun K hK => ?_)
      refine wp_store_block 28 _ _ rfl w.heap.size #[.int .i64 b.src, .int .i64 b.crt, .int .i64 b.seq, .int .i64 b.off, .int .i64 b.tot, .int .i64 b.dk, .int .i64 b.dn, .int .i64 b.life, .int .i64 b.prio, .int .i64 b.flags, .slice va5 bl2.length vc5, .string (B b.payload)] _ 28 rfl rfl HB8.out rfl (by kernel_rfl) (by simp [Value.oneCell']) ?_
      intro W hW hbW hsW hoW
      refine hK _ _ ?_
      clear hK K
      (try simp only [Act.put, List.setIfInBounds_toArray, List.set_cons_zero, List.set_cons_succ])
      (iterate 2 (refine plan_held rfl (by decide) (by rfl) (fun w1 hS => by go_simp; rfl) ?_; (try simp only [Act.put, List.setIfInBounds_toArray, List.set_cons_zero, List.set_cons_succ])))
      refine plan_done ?_
      have HW := Lib.hid hW
      have hBW : Below w.heap.size w W := B8.trans (hbW _ (Nat.le_refl _))
      have HVW : Hid (RBlks W W.heap.size (.slice va5 bl2.length vc5) bl2) := Lib.hid (RBlks.stay HV9.out (fun q hq hc => by
        have q1 : q ≠ w.heap.size := fun e => hc _ _ (by rw [e]; exact HAB.out) noBlk12
        refine (hoW q q1).trans ((HG8.out.block q (by first | omega | (simp; omega)) (fun e => ?_)).trans (Below.heap_alloc W9 _ _ (by simpa using hq)))
        rcases HO9.out.1.2 with ⟨e2, _⟩ | ⟨g', cap', cur', e2, _⟩
        · rw [e2] at e; cases e
        · rw [e2] at e
          obtain rfl : q = g' := Option.some.inj e
          obtain ⟨cur, h1, h2⟩ := HO9.out.2 _ _ _ _ e2
          exact hc _ _ h1 (noBlk_ints h2)) (by omega))
      have HLW : Hid (RInts W w4.heap.size v3 lv) := Lib.hid (RInts.box (l1 := bl) (l2 := bl2) HL9.out HAB.out hW (fun q o q1 hq => World.cell?_of_block ((hoW q q1).trans ((HG8.out.block q (by first | omega | (simp; omega)) (ne1 q (.inr (.inr hq)))).trans (Below.heap_alloc W9 _ _ (by first | omega | (simp; omega)))))) (Nat.le_refl _))
      have HOW := Lib.hid (HO8.out.keep (w' := W) (fun g hg _ => hoW g (by omega)))
      have szW : w4.heap.size ≤ W.heap.size := by rw [hsW]; omega
      clear hW hbW hoW hsW
      go_wp2
      have hwn : IntKind.i64.wrap ((sn.length : Int) + 1) = ((sn.length + 1 : Nat) : Int) := by rw [IntKind.wrap_i64]; omega
      go_roundw
      case rel => exact ⟨k + 1, bl2, sn ++ [r1], va5, vc5, by go_num, by rw [List.length_append, List.length_singleton, hwn], by omega, by rw [List.length_append, List.length_singleton]; omega, HW, HVW, HINV, HOW, HLW, hBW, szW⟩
      case measure => simp [intOf]; omega
    · obtain rfl : k = ns.length := by omega
      clear hk hlt
      have HH3 : Hid (eh = 0 → 0 ≤ cnt ∧ cnt ≤ 255 ∧ cnt + (sn.length : Int) ≤ lim) := Lib.hid (fun z => by
        have h3 := HI.out.2.2.1
        have hz : (getS b 2).2 = 0 := (congrArg (fun q => q.2.2) HHO.out).trans z
        rw [if_pos hz, HHO.out] at h3
        obtain ⟨x, y, e, _, _, _, e4⟩ := get2_dec (show (getS { b with blocks := bl } 2).2 = 0 by rw [h3])
        rw [h3] at e
        simp only [Prod.mk.injEq, List.cons.injEq, and_true] at e
        subst z
        have := hop_facts HHO.out
        omega)
      have HA3 : Hid (ea = 0 → 0 ≤ a1 ∧ a1 ≤ 1099511627776 ∧ (sn.length = 0 ∨ a1 + (sn.length : Int) * el < b.life)) := Lib.hid (fun z => by
        have hz : (getS b 1).2 = 0 := (congrArg Prod.snd HAG.out).trans z
        have h5 := HI.out.2.2.2.2 hz
        rw [HAG.out] at h5
        subst z
        have := age_facts HAG.out
        exact ⟨this.1, this.2, h5⟩)
      by_cases hev : ev = 0
      case neg =>
        have qev : (ev == 0) = false := beq_eq_false_iff_ne.2 hev
        have hs20 : (sn.length : Int) ≤ 20 := by omega
        have hM1 : 0 ≤ (sn.length : Int) * el := Int.mul_nonneg (by omega) we1
        have hM2 : (sn.length : Int) * el ≤ 20 * 65535 := Int.mul_le_mul hs20 we2 we1 (by omega)
        obtain ⟨M, hM⟩ : ∃ M, (sn.length : Int) * el = M := ⟨_, rfl⟩
        rw [hM] at hM1 hM2
        by_cases qe : eh = 0
        · subst qe
          obtain ⟨o1, o2, o3⟩ := HH3.out rfl
          have hw3 : IntKind.i64.wrap (cnt + (sn.length : Int)) = cnt + (sn.length : Int) := by rw [IntKind.wrap_i64]; omega
          by_cases qa : ea = 0
          · subst qa
            obtain ⟨p1, p2, p3⟩ := HA3.out rfl
            rw [hM] at p3
            have hw1 : IntKind.i64.wrap M = M := by rw [IntKind.wrap_i64]; omega
            have hw2 : IntKind.i64.wrap (a1 + M) = a1 + M := by rw [IntKind.wrap_i64]; omega
            by_cases qs : sn.length = 0
            · have qs2 : ((sn.length : Int) == 0) = true := by rw [beq_iff_eq]; omega
              clear p3 qs
              go_wp2_with fail
              refine (awake_any _).mono ?_
              rintro e w99 ⟨rfl, hb99⟩
              go_wp2
              go_ret
              exact ⟨rfl, (by repeat' (first | with_reducible (first | refine bset ?_ ?_ | exact Below.refl _ _ | assumption | refine bdrewN ?_ _ | refine bdrew ?_ | refine balloc0 ?_ | refine balloc ?_ ?_ | (apply btrans0; rotate_left; assumption) | (apply btrans; rotate_left; assumption)) | exact Below.refl _ _ | assumption | (apply btrans0; rotate_left; assumption) | (apply btrans; rotate_left; assumption) | (simp; done) | omega | (simp; omega)))⟩
            · have qs2 : ((sn.length : Int) == 0) = false := by rw [beq_eq_false_iff_ne]; omega
              have p4 : a1 + M < b.life := p3.resolve_left qs
              clear p3 qs
              go_wp2_with fail
              refine (awake_any _).mono ?_
              rintro e w99 ⟨rfl, hb99⟩
              go_wp2
              go_ret
              exact ⟨rfl, (by repeat' (first | with_reducible (first | refine bset ?_ ?_ | exact Below.refl _ _ | assumption | refine bdrewN ?_ _ | refine bdrew ?_ | refine balloc0 ?_ | refine balloc ?_ ?_ | (apply btrans0; rotate_left; assumption) | (apply btrans; rotate_left; assumption)) | exact Below.refl _ _ | assumption | (apply btrans0; rotate_left; assumption) | (apply btrans; rotate_left; assumption) | (simp; done) | omega | (simp; omega)))⟩
          · have qa2 : (ea != 0) = true := by rw [bne_iff_ne]; exact qa
            clear qa
            go_wp2_with fail
            refine (awake_any _).mono ?_
            rintro e w99 ⟨rfl, hb99⟩
            go_wp2
            go_ret
            exact ⟨rfl, (by repeat' (first | with_reducible (first | refine bset ?_ ?_ | exact Below.refl _ _ | assumption | refine bdrewN ?_ _ | refine bdrew ?_ | refine balloc0 ?_ | refine balloc ?_ ?_ | (apply btrans0; rotate_left; assumption) | (apply btrans; rotate_left; assumption)) | exact Below.refl _ _ | assumption | (apply btrans0; rotate_left; assumption) | (apply btrans; rotate_left; assumption) | (simp; done) | omega | (simp; omega)))⟩
        have qe2 : (eh != 0) = true := by rw [bne_iff_ne]; exact qe
        clear qe
        by_cases qa : ea = 0
        · subst qa
          obtain ⟨p1, p2, p3⟩ := HA3.out rfl
          rw [hM] at p3
          have hw1 : IntKind.i64.wrap M = M := by rw [IntKind.wrap_i64]; omega
          have hw2 : IntKind.i64.wrap (a1 + M) = a1 + M := by rw [IntKind.wrap_i64]; omega
          by_cases qs : sn.length = 0
          · have qs2 : ((sn.length : Int) == 0) = true := by rw [beq_iff_eq]; omega
            clear p3 qs
            go_wp2_with fail
            refine (awake_any _).mono ?_
            rintro e w99 ⟨rfl, hb99⟩
            go_wp2
            go_ret
            exact ⟨rfl, (by repeat' (first | with_reducible (first | refine bset ?_ ?_ | exact Below.refl _ _ | assumption | refine bdrewN ?_ _ | refine bdrew ?_ | refine balloc0 ?_ | refine balloc ?_ ?_ | (apply btrans0; rotate_left; assumption) | (apply btrans; rotate_left; assumption)) | exact Below.refl _ _ | assumption | (apply btrans0; rotate_left; assumption) | (apply btrans; rotate_left; assumption) | (simp; done) | omega | (simp; omega)))⟩
          · have qs2 : ((sn.length : Int) == 0) = false := by rw [beq_eq_false_iff_ne]; omega
            have p4 : a1 + M < b.life := p3.resolve_left qs
            clear p3 qs
            go_wp2_with fail
            refine (awake_any _).mono ?_
            rintro e w99 ⟨rfl, hb99⟩
            go_wp2
            go_ret
            exact ⟨rfl, (by repeat' (first | with_reducible (first | refine bset ?_ ?_ | exact Below.refl _ _ | assumption | refine bdrewN ?_ _ | refine bdrew ?_ | refine balloc0 ?_ | refine balloc ?_ ?_ | (apply btrans0; rotate_left; assumption) | (apply btrans; rotate_left; assumption)) | exact Below.refl _ _ | assumption | (apply btrans0; rotate_left; assumption) | (apply btrans; rotate_left; assumption) | (simp; done) | omega | (simp; omega)))⟩
        · have qa2 : (ea != 0) = true := by rw [bne_iff_ne]; exact qa
          clear qa
          go_wp2_with fail
          refine (awake_any _).mono ?_
          rintro e w99 ⟨rfl, hb99⟩
          go_wp2
          go_ret
          exact ⟨rfl, (by repeat' (first | with_reducible (first | refine bset ?_ ?_ | exact Below.refl _ _ | assumption | refine bdrewN ?_ _ | refine bdrew ?_ | refine balloc0 ?_ | refine balloc ?_ ?_ | (apply btrans0; rotate_left; assumption) | (apply btrans; rotate_left; assumption)) | exact Below.refl _ _ | assumption | (apply btrans0; rotate_left; assumption) | (apply btrans; rotate_left; assumption) | (simp; done) | omega | (simp; omega)))⟩
      subst hev
      have HG3 : Hid (getS { b with blocks := bl } 3 = (lv ++ sn, 0)) := Lib.hid (by
        have h4 := HI.out.2.2.2.1
        rwa [if_pos (by rw [HG.out]), HG.out] at h4)
      have fb := HI.out.1
      go_wp2_with fail
      refine (visited_any { b with blocks := bl } _ _ HBL.out fb).mono ?_
      unfold GetPost
      rw [HG3.out]
      simp only
      rintro e w7 ⟨v7, rfl, hb7, hi7⟩
      have HI7 := Lib.hid hi7
      have hB7 : Below w.heap.size w w7 := btrans hB hb7 (by omega)
      have y7 := hb7.size
      have HA7 := Lib.hid ((hb7.block _ zb).trans HA.out)
      have HO7 := Lib.hid (HO.out.keep (fun g _ hg => hb7.block g hg))
      have HL7 := Lib.hid (RInts.keep HL.out (fun q o hq => hb7.cell (p := ⟨q, o, none⟩) (by show q < wr.heap.size; omega)) (show w4.heap.size ≤ w7.heap.size by omega))
      clear ca fa hi7
      obtain ⟨a31, c31, rfl, _⟩ := id HL7.out
      obtain ⟨a32, c32, rfl, _⟩ := id HO7.out.ints
      go_wp2_with fail
      refine (concat2_any lv sn _ _ w7.heap.size _ _ heap_new (HL7.out.below' (balloc0 (Below.refl _ _))) (HO7.out.ints.below' (balloc0 (Below.refl _ _))) (by omega) (by omega)).mono ?_
      unfold ConcPost
      rintro e w8 ⟨v8, rfl, hi8, hb8⟩
      have HI8 := Lib.hid hi8
      have hB8 : Below w.heap.size w w8 := btrans0 (balloc0 hB7) hb8
      have b78 : Below w7.heap.size w7 w8 := btrans0 (balloc0 (Below.refl _ _)) hb8
      clear hi8
      go_wp2_with fail
      refine (equalI_any (lv ++ sn) _ _ _ (HI7.out.below' b78) HI8.out).mono ?_
      rintro e w9 ⟨rfl, hb9⟩
      have hB9 : Below w.heap.size w w9 := btrans0 hB8 hb9
      have b79 : Below w7.heap.size w7 w9 := btrans0 b78 hb9
      have A9 := (b79.block _ (by omega)).trans HA7.out
      have ca := fun o => cellB A9 o
      simp only [bunC] at ca
      have zb9 : w.heap.size < w9.heap.size := by have := b79.size; omega
      clear A9 hb8 hb9
      have hs20 : (sn.length : Int) ≤ 20 := by omega
      have hM1 : 0 ≤ (sn.length : Int) * el := Int.mul_nonneg (by omega) we1
      have hM2 : (sn.length : Int) * el ≤ 20 * 65535 := Int.mul_le_mul hs20 we2 we1 (by omega)
      obtain ⟨M, hM⟩ : ∃ M, (sn.length : Int) * el = M := ⟨_, rfl⟩
      rw [hM] at hM1 hM2
      by_cases qe : eh = 0
      · subst qe
        obtain ⟨o1, o2, o3⟩ := HH3.out rfl
        have hw3 : IntKind.i64.wrap (cnt + (sn.length : Int)) = cnt + (sn.length : Int) := by rw [IntKind.wrap_i64]; omega
        by_cases qa : ea = 0
        · subst qa
          obtain ⟨p1, p2, p3⟩ := HA3.out rfl
          rw [hM] at p3
          have hw1 : IntKind.i64.wrap M = M := by rw [IntKind.wrap_i64]; omega
          have hw2 : IntKind.i64.wrap (a1 + M) = a1 + M := by rw [IntKind.wrap_i64]; omega
          by_cases qs : sn.length = 0
          · have qs2 : ((sn.length : Int) == 0) = true := by rw [beq_iff_eq]; omega
            clear p3 qs
            go_wp2_with fail
            refine (awake_any _).mono ?_
            rintro e w99 ⟨rfl, hb99⟩
            go_wp2
            go_ret
            exact ⟨rfl, (by repeat' (first | with_reducible (first | refine bset ?_ ?_ | exact Below.refl _ _ | assumption | refine bdrewN ?_ _ | refine bdrew ?_ | refine balloc0 ?_ | refine balloc ?_ ?_ | (apply btrans0; rotate_left; assumption) | (apply btrans; rotate_left; assumption)) | exact Below.refl _ _ | assumption | (apply btrans0; rotate_left; assumption) | (apply btrans; rotate_left; assumption) | (simp; done) | omega | (simp; omega)))⟩
          · have qs2 : ((sn.length : Int) == 0) = false := by rw [beq_eq_false_iff_ne]; omega
            have p4 : a1 + M < b.life := p3.resolve_left qs
            clear p3 qs
            go_wp2_with fail
            refine (awake_any _).mono ?_
            rintro e w99 ⟨rfl, hb99⟩
            go_wp2
            go_ret
            exact ⟨rfl, (by repeat' (first | with_reducible (first | refine bset ?_ ?_ | exact Below.refl _ _ | assumption | refine bdrewN ?_ _ | refine bdrew ?_ | refine balloc0 ?_ | refine balloc ?_ ?_ | (apply btrans0; rotate_left; assumption) | (apply btrans; rotate_left; assumption)) | exact Below.refl _ _ | assumption | (apply btrans0; rotate_left; assumption) | (apply btrans; rotate_left; assumption) | (simp; done) | omega | (simp; omega)))⟩
        · have qa2 : (ea != 0) = true := by rw [bne_iff_ne]; exact qa
          clear qa
          go_wp2_with fail
          refine (awake_any _).mono ?_
          rintro e w99 ⟨rfl, hb99⟩
          go_wp2
          go_ret
          exact ⟨rfl, (by repeat' (first | with_reducible (first | refine bset ?_ ?_ | exact Below.refl _ _ | assumption | refine bdrewN ?_ _ | refine bdrew ?_ | refine balloc0 ?_ | refine balloc ?_ ?_ | (apply btrans0; rotate_left; assumption) | (apply btrans; rotate_left; assumption)) | exact Below.refl _ _ | assumption | (apply btrans0; rotate_left; assumption) | (apply btrans; rotate_left; assumption) | (simp; done) | omega | (simp; omega)))⟩
      have qe2 : (eh != 0) = true := by rw [bne_iff_ne]; exact qe
      clear qe
      by_cases qa : ea = 0
      · subst qa
        obtain ⟨p1, p2, p3⟩ := HA3.out rfl
        rw [hM] at p3
        have hw1 : IntKind.i64.wrap M = M := by rw [IntKind.wrap_i64]; omega
        have hw2 : IntKind.i64.wrap (a1 + M) = a1 + M := by rw [IntKind.wrap_i64]; omega
        by_cases qs : sn.length = 0
        · have qs2 : ((sn.length : Int) == 0) = true := by rw [beq_iff_eq]; omega
          clear p3 qs
          go_wp2_with fail
          refine (awake_any _).mono ?_
          rintro e w99 ⟨rfl, hb99⟩
          go_wp2
          go_ret
          exact ⟨rfl, (by repeat' (first | with_reducible (first | refine bset ?_ ?_ | exact Below.refl _ _ | assumption | refine bdrewN ?_ _ | refine bdrew ?_ | refine balloc0 ?_ | refine balloc ?_ ?_ | (apply btrans0; rotate_left; assumption) | (apply btrans; rotate_left; assumption)) | exact Below.refl _ _ | assumption | (apply btrans0; rotate_left; assumption) | (apply btrans; rotate_left; assumption) | (simp; done) | omega | (simp; omega)))⟩
        · have qs2 : ((sn.length : Int) == 0) = false := by rw [beq_eq_false_iff_ne]; omega
          have p4 : a1 + M < b.life := p3.resolve_left qs
          clear p3 qs
          go_wp2_with fail
          refine (awake_any _).mono ?_
          rintro e w99 ⟨rfl, hb99⟩
          go_wp2
          go_ret
          exact ⟨rfl, (by repeat' (first | with_reducible (first | refine bset ?_ ?_ | exact Below.refl _ _ | assumption | refine bdrewN ?_ _ | refine bdrew ?_ | refine balloc0 ?_ | refine balloc ?_ ?_ | (apply btrans0; rotate_left; assumption) | (apply btrans; rotate_left; assumption)) | exact Below.refl _ _ | assumption | (apply btrans0; rotate_left; assumption) | (apply btrans; rotate_left; assumption) | (simp; done) | omega | (simp; omega)))⟩
      · have qa2 : (ea != 0) = true := by rw [bne_iff_ne]; exact qa
        clear qa
        go_wp2_with fail
        refine (awake_any _).mono ?_
        rintro e w99 ⟨rfl, hb99⟩
        go_wp2
        go_ret
        exact ⟨rfl, (by repeat' (first | with_reducible (first | refine bset ?_ ?_ | exact Below.refl _ _ | assumption | refine bdrewN ?_ _ | refine bdrew ?_ | refine balloc0 ?_ | refine balloc ?_ ?_ | (apply btrans0; rotate_left; assumption) | (apply btrans; rotate_left; assumption)) | exact Below.refl _ _ | assumption | (apply btrans0; rotate_left; assumption) | (apply btrans; rotate_left; assumption) | (simp; done) | omega | (simp; omega)))⟩
theorem walk (b : Bun) (u : Value) (ns : List Int) (nv : Value) (el : Int) (w : World) (hr : RBlks w w.heap.size u b.blocks) (hf : Fits b) (hn : RU8 w w.heap.size nv ns) (we : 0 ≤ el ∧ el ≤ 65535) :
    Calls Try.prog 8 #[.agg (bunC b u).toArray, nv, .int .u16 el] w (Says w) := by
  by_cases h : 20 < ns.length
  · exact walkL b u ns nv el w hr hf hn we h
  · exact walkM b u ns nv el w hr hf hn we (by omega)

set_option maxRecDepth 100000 in
theorem lifted (os : Os) (started : os.Started) (H : Type) (enc : TypeId × Value → H) :
    ReturnsInHanded {} Try.checked os 8 .any (Rows.extensionLoopsSpec.pre6 enc Try.prog Try.f8 Rows.extensionLoopsRow.domain false) (Rows.extensionLoopsSpec.post enc Try.prog Try.f8 false true false false) := by
  refine returnsInHanded_of_change (C := Try.checked) own started (by kernel_rfl) Try.func8
    (ChangeSpec.witness6 (enc := enc) (C := Try.checked) false ⟨#[], #[.agg #[.int .i64 0, .int .i64 0, .int .i64 0, .int .i64 0, .int .i64 0, .int .i64 0, .int .i64 0, .int .i64 0, .int .i64 0, .int .i64 0, .slice none 0 0, .string (B [])], .slice none 0 0, .int .u16 0], []⟩ 8 (by kernel_rfl) (by kernel_rfl) (by kernel_rfl) (by kernel_rfl)) ?_
  intro W base args ds gs before hval0 hW hcnd _
  have hval : ∀ (j : Nat) t v, Try.f8.params[j]? = some t → args[j]? = some v → Value.okWide Try.prog W .any base t v := hval0
  have hW' := hW
  obtain ⟨p, q, hA0, hV, rfl, hfz, hnd⟩ := hW
  have hA : DataW.TrodAll enc Try.prog W 0 (fun _ => true) true Try.f8.params.toList args.toList ds p := hA0
  rw [Try.params8] at hA hval
  obtain ⟨v0, vs0, d0, ds0, p0, q0, hargs, rfl, rfl, h0, r0⟩ := trodAll_cons hA
  obtain ⟨v1, vs1, d1, ds1, p1, q1, rfl, rfl, rfl, h1, r1⟩ := trodAll_cons r0
  obtain ⟨v2, vs2, d2, ds2, p2, q2, rfl, rfl, rfl, h2, r2⟩ := trodAll_cons r1
  obtain ⟨rfl, rfl, rfl⟩ := trodAll_nil r2
  obtain rfl : args = #[v0, v1, v2] := by cases args; simp_all
  obtain ⟨x0, u0, rfl, hr0, hf0⟩ := open_bun (hval 0 28 v0 rfl rfl) h0
  obtain ⟨x1, hr1⟩ := open_u8s_arg (hval 1 51 v1 rfl rfl) h1
  obtain ⟨x2, rfl, _, _, wx2⟩ := open_int Try.underlying49 (hval 2 49 v2 rfl rfl) h2
  refine (walk x0 u0 x1 v1 x2 W hr0 hf0 hr1 (by have := wx2; simp [Lit.wf, IntKind.min, IntKind.max, IntKind.signed, IntKind.bits] at this; omega)).mono fun e W' ⟨he, hB⟩ => ?_
  subst he
  refine ⟨_, rfl, law_post (by kernel_rfl) (by kernel_rfl) rfl Try.underlying4 rfl ?_ hW' hB⟩
  intro es hes
  match es, hes with
  | [_, _, _], _ => rfl

theorem proved : Rows.ExtensionLoopsSaid :=
  OpenClaim.holds_of_wide 8 Try.f8 rfl rfl rfl rfl rfl rfl rfl ⟨rfl, rfl, rfl, rfl, rfl⟩ rfl rfl rfl rfl rfl (by kernel_rfl) Try.func8 (by kernel_rfl)
    (of_decide_eq_true (by kernel_rfl)) (by unfold Func.isWrapper; first | (rw [if_pos (by decide +kernel)]; kernel_rfl) | (rw [if_neg (by decide +kernel)]; exact ⟨rfl, rfl⟩))
    (fun os started H enc _ => lifted os started H enc)
#print axioms proved
end Go.Proofs.Ythgokfceakbjlaa.extensionLoops
