/- slices.MinFunc over labels. -/
import Derived.BigQuiet
import Derived.BigRegion
import Derived.Deep.DeepCutAuto
import Derived.Deep.CutBlock
import Derived.Laws.EntriesVeiled
import Derived.Test.YtkokiahmgmeokaaGreatKfb
import Derived.Deep.MidRow
import Derived.Laws.IdiomCopy
set_option linter.unusedVariables false
set_option linter.unusedSimpArgs false
namespace Go.Proofs.YtkokiahmgmeokaaGreat
open Go Go.RowKit Iv
attribute [local go_sem] Oper.semAt_some
attribute [local go_sem] B_getElem B_size B_app B_extract B_get B_toList
theorem cmpL_eq (a b : Lbl) : cmpL a b = if cmpI a.tm b.tm = 0 then orL [cmpI a.nd b.nd, cmpI a.fr b.fr] else cmpI a.tm b.tm := by
  unfold cmpL
  conv => lhs; unfold orL
theorem cmpL_lt {a b : Lbl} (h : cmpL a b < 0) : a.tm ≤ b.tm := by
  rw [cmpL_eq] at h
  split at h
  · rename_i h2
    exact Int.le_of_eq (cmpI_zero.1 h2)
  · unfold cmpI at h
    split at h
    · omega
    · split at h <;> omega
theorem cmpL_ge {a b : Lbl} (h : ¬ cmpL a b < 0) : b.tm ≤ a.tm := by
  refine Int.not_lt.1 fun hlt => h ?_
  have : cmpI a.tm b.tm = -1 := if_pos hlt
  rw [cmpL_eq, this, if_neg (by decide)]
  decide
set_option maxRecDepth 100000 in
set_option maxHeartbeats 4000000 in
theorem minf_any (O : List Lbl) (u : Value) (w : World) (hr : RRow lblC 4 w w.heap.size u O) (hn : 0 < O.length) (hl : O.length ≤ 1000000000000) :
    Calls Tryz.prog 62 #[u, .func (.func 63) #[] #[]] w fun e w' => (∃ x ∈ O, e = .returned (.agg #[.int .i64 x.nd, .int .i64 x.fr, .int .i64 x.tt, .int .i64 x.tm]) ∧ ∀ y ∈ O, x.tm ≤ y.tm) ∧ Below w.heap.size w w' := by
  obtain ⟨a, c, rfl, h1, h2, h3, h4⟩ := hr
  obtain ⟨bb, o, rfl, hbb, hcell⟩ := h4 hn
  have HC := Lib.hid hcell
  unfold maxLen at h2
  obtain ⟨x0, hx0⟩ : ∃ x, O[0]? = some x := ⟨_, List.getElem?_eq_getElem hn⟩
  have q0 : w.cell? ⟨bb, o, none⟩ = some (.int .i64 x0.nd) := by have := hcell 0 x0 hx0 0 _ rfl; simpa using this
  have q1 : w.cell? ⟨bb, o + 1, none⟩ = some (.int .i64 x0.fr) := by have := hcell 0 x0 hx0 1 _ rfl; simpa using this
  have q2 : w.cell? ⟨bb, o + 2, none⟩ = some (.int .i64 x0.tt) := by have := hcell 0 x0 hx0 2 _ rfl; simpa using this
  have q3 : w.cell? ⟨bb, o + 3, none⟩ = some (.int .i64 x0.tm) := by have := hcell 0 x0 hx0 3 _ rfl; simpa using this
  have n0 : (0 : Int) < (O.length : Int) := by omega
  have n1 : ¬ (O.length : Int) < 1 := by omega
  have n2 : ¬ O.length < 1 := by omega
  have HX0 := Lib.hid hx0
  clear h3 h4 hcell hx0
  go_enter Tryz.func62, Tryz.ntmps62
  go_wp2_with fail
  obtain ⟨W, hW⟩ : ∃ q, (w.alloc (.cells #[.int .i64 0, .int .i64 0, .int .i64 0, .int .i64 0] 129)).alloc (.cells #[.int .i64 x0.nd, .int .i64 x0.fr, .int .i64 x0.tt, .int .i64 x0.tm] 129) = q := ⟨_, rfl⟩
  rw [hW]
  have B1 : Hid (Below w.heap.size w W) := Lib.hid (by rw [← hW]; exact belowA)
  have XZ : Hid (W.heap[w.heap.size]? = some (.cells #[.int .i64 0, .int .i64 0, .int .i64 0, .int .i64 0] 129 (0, 0))) := Lib.hid (by rw [← hW]; exact (by repeat (first | exact heap_new' (by first | rfl | (simp; done)) | refine (Below.heap_alloc _ _ _ (by first | (simp; done) | (simp; omega))).trans ?_)))
  have XM : Hid (W.heap[w.heap.size + 1]? = some (.cells #[.int .i64 x0.nd, .int .i64 x0.fr, .int .i64 x0.tt, .int .i64 x0.tm] 129 (0, 0))) := Lib.hid (by rw [← hW]; exact (by repeat (first | exact heap_new' (by first | rfl | (simp; done)) | refine (Below.heap_alloc _ _ _ (by first | (simp; done) | (simp; omega))).trans ?_)))
  clear hW q0 q1 q2 q3
  go_loopw [6] (fun kv wr => ∃ (k : Nat) (x : Lbl), 1 ≤ k ∧ k ≤ O.length ∧ kv = .int .i64 (k : Int) ∧ Hid (x ∈ O ∧ ∀ j y, j < k → O[j]? = some y → x.tm ≤ y.tm) ∧ Hid (wr.heap[w.heap.size]? = some (.cells #[.int .i64 0, .int .i64 0, .int .i64 0, .int .i64 0] 129 (0, 0))) ∧ Hid (wr.heap[w.heap.size + 1]? = some (.cells #[.int .i64 x.nd, .int .i64 x.fr, .int .i64 x.tt, .int .i64 x.tm] 129 (0, 0))) ∧ Hid (Below w.heap.size w wr)) (fun kv _ => O.length - (intOf kv).toNat)
  case atStart => exact ⟨1, x0, Nat.le_refl _, by omega, rfl, Lib.hid ⟨List.mem_of_getElem? HX0.out, fun j y hj hy => by have e : j = 0 := (by omega); subst e; rw [HX0.out] at hy; injection hy with hy; subst hy; exact Int.le_refl _⟩, XZ, XM, B1⟩
  case round =>
    obtain ⟨k, x, k1, k2, rfl, HX, HZ, HM, HB⟩ := hrel
    have z1 : w.heap.size + 1 < wr.heap.size := (Array.getElem?_eq_some_iff.1 HM.out).1
    have cm := fun q => cellB HM.out q
    by_cases hlt : k < O.length
    · obtain ⟨y, hy⟩ : ∃ y, O[k]? = some y := ⟨_, List.getElem?_eq_getElem hlt⟩
      have p0 : wr.cell? ⟨bb, o + k * 4, none⟩ = some (.int .i64 y.nd) := (HB.out.cell (p := ⟨bb, o + k * 4, none⟩) hbb).trans (HC.out k y hy 0 _ rfl)
      have p1 : wr.cell? ⟨bb, o + k * 4 + 1, none⟩ = some (.int .i64 y.fr) := (HB.out.cell (p := ⟨bb, o + k * 4 + 1, none⟩) hbb).trans (HC.out k y hy 1 _ rfl)
      have p2 : wr.cell? ⟨bb, o + k * 4 + 2, none⟩ = some (.int .i64 y.tt) := (HB.out.cell (p := ⟨bb, o + k * 4 + 2, none⟩) hbb).trans (HC.out k y hy 2 _ rfl)
      have p3 : wr.cell? ⟨bb, o + k * 4 + 3, none⟩ = some (.int .i64 y.tm) := (HB.out.cell (p := ⟨bb, o + k * 4 + 3, none⟩) hbb).trans (HC.out k y hy 3 _ rfl)
      have zb : bb < wr.heap.size := by omega
      have k0 : (0 : Int) ≤ (k : Int) := by omega
      have k3 : (k : Int) < (O.length : Int) := by omega
      have HY := Lib.hid hy
      obtain ⟨C, hC⟩ : ∃ C, cmpL y x = C := ⟨_, rfl⟩
      have HCC := Lib.hid hC
      clear hy hC
      go_upto_region 7 with fail
      refine wp_region_plan (fun V => Below (wr).heap.size (wr) V) [0, 0, 0, 0, 1, 1, 3, 0] [0, 1, 2, 3, 4, 5, 6, 7] (by kernel_rfl) (by kernel_rfl) ?_ ?_
      case refine_1 => exact belowA
      (iterate 6 (first | (refine plan_held rfl (by decide) (by rfl) (fun w1 hS => by (try (obtain ⟨_, _⟩ := bcell (hS rfl))); go_simp; rfl) ?_; simp only [Act.put, List.setIfInBounds_toArray, List.set_cons_zero, List.set_cons_succ]) | (refine plan_skip rfl (by decide) (by rfl) ?_; simp only [Act.put, List.setIfInBounds_toArray, List.set_cons_zero, List.set_cons_succ])))
      (refine plan_late rfl rfl (by rfl) (fun K hK => ?_); go_simp)
      refine (lcmp_any y x _).mono ?_
      rw [HCC.out]
      rintro e wc26 ⟨rfl, hbc26⟩
      (refine hK _ _ ?_; clear hK K; (try simp only [Act.put, List.setIfInBounds_toArray, List.set_cons_zero, List.set_cons_succ]))
      (iterate 1 (first | (refine plan_held rfl (by decide) (by rfl) (fun w1 hS => by (try (obtain ⟨_, _⟩ := bcell (hS rfl))); go_simp; rfl) ?_; simp only [Act.put, List.setIfInBounds_toArray, List.set_cons_zero, List.set_cons_succ]) | (refine plan_skip rfl (by decide) (by rfl) ?_; simp only [Act.put, List.setIfInBounds_toArray, List.set_cons_zero, List.set_cons_succ])))
      refine plan_done ?_
      have K2 : Below wr.heap.size wr wc26 := btrans0 (bdrew (Below.refl _ _)) hbc26
      have HZ2 : Hid (wc26.heap[w.heap.size]? = some (.cells #[.int .i64 0, .int .i64 0, .int .i64 0, .int .i64 0] 129 (0, 0))) := Lib.hid ((K2.block _ (by omega)).trans HZ.out)
      have HM2 : Hid (wc26.heap[w.heap.size + 1]? = some (.cells #[.int .i64 x.nd, .int .i64 x.fr, .int .i64 x.tt, .int .i64 x.tm] 129 (0, 0))) := Lib.hid ((K2.block _ z1).trans HM.out)
      have HB2 : Hid (Below w.heap.size w wc26) := Lib.hid (HB.out.trans (K2.mono (by omega)))
      have z2 : w.heap.size + 1 < wc26.heap.size := (Array.getElem?_eq_some_iff.1 HM2.out).1
      by_cases hc : C < 0
      · have dc : decide (C < 0) = true := decide_eq_true hc
        have HN : Hid (y ∈ O ∧ ∀ j v, j < k + 1 → O[j]? = some v → y.tm ≤ v.tm) := Lib.hid ⟨List.mem_of_getElem? HY.out, fun j v hj hv => by
          by_cases e : j = k
          · subst e; rw [HY.out] at hv; injection hv with hv; subst hv; exact Int.le_refl _
          · exact Int.le_trans (cmpL_lt (by rw [HCC.out]; exact hc)) (HX.out.2 j v (by omega) hv)⟩
        have p0' := (K2.cell (p := ⟨bb, o + k * 4, none⟩) zb).trans p0
        have p1' := (K2.cell (p := ⟨bb, o + k * 4 + 1, none⟩) zb).trans p1
        have p2' := (K2.cell (p := ⟨bb, o + k * 4 + 2, none⟩) zb).trans p2
        have p3' := (K2.cell (p := ⟨bb, o + k * 4 + 3, none⟩) zb).trans p3
        have zb' : bb < wc26.heap.size := by omega
        clear K2 hbc26 cm p0 p1 p2 p3 hc
        rw [dc]
        go_wp2_with (refine wpList_store_block rfl 129 _ _ rfl (w.heap.size + 1) #[.int .i64 y.nd, .int .i64 y.fr, .int .i64 y.tt, .int .i64 y.tm] _ 129 rfl rfl HM2.out rfl (by kernel_rfl) (by simp [Value.oneCell']) ?_; intro wF hW hbW hsW hoW; have HF := Lib.hid hW; have HZF := Lib.hid ((hoW w.heap.size (by omega)).trans HZ2.out); have HBF := Lib.hid (HB2.out.trans (hbW w.heap.size (by omega))); clear hW hbW hsW hoW)
        go_roundw
        case rel => exact ⟨k + 1, y, by omega, by omega, by go_num, HN, HZF, HF, HBF⟩
        case measure => simp [intOf]; omega
      · have dc : decide (C < 0) = false := decide_eq_false hc
        have HN : Hid (x ∈ O ∧ ∀ j v, j < k + 1 → O[j]? = some v → x.tm ≤ v.tm) := Lib.hid ⟨HX.out.1, fun j v hj hv => by
          by_cases e : j = k
          · subst e; rw [HY.out] at hv; injection hv with hv; subst hv; exact cmpL_ge (by rw [HCC.out]; exact hc)
          · exact HX.out.2 j v (by omega) hv⟩
        clear K2 hbc26 cm p0 p1 p2 p3 hc
        rw [dc]
        go_wp2
        go_roundw
        case rel => exact ⟨k + 1, x, by omega, by omega, by go_num, HN, HZ2, HM2, HB2⟩
        case measure => simp [intOf]; omega
    · obtain rfl : k = O.length := by omega
      go_wp2_with (refine wpList_store_block rfl 129 _ _ rfl w.heap.size #[.int .i64 x.nd, .int .i64 x.fr, .int .i64 x.tt, .int .i64 x.tm] _ 129 rfl rfl HZ.out rfl (by kernel_rfl) (by simp [Value.oneCell']) ?_; intro wF hW hbW hsW hoW; have bF : Below w.heap.size w wF := HB.out.trans (hbW _ (Nat.le_refl _)); have zF : w.heap.size < wF.heap.size := (Array.getElem?_eq_some_iff.1 hW).1; have cF := fun o => cellB hW o; clear hW hbW hsW hoW)
      refine bodyPost_ret (v := .agg #[.int .i64 x.nd, .int .i64 x.fr, .int .i64 x.tt, .int .i64 x.tm]) (by simp [results, Tryz.results62, go_sem, World.cell?_setCell_same', cF, zF]) rfl ?_
      exact ⟨⟨x, HX.out.1, rfl, fun y hy => by obtain ⟨j, hj⟩ := List.getElem?_of_mem hy; exact HX.out.2 j y (List.getElem?_eq_some_iff.1 hj).1 hj⟩, bF⟩
end Go.Proofs.YtkokiahmgmeokaaGreat
/- slices.DeleteFunc over labels. -/
set_option linter.unusedVariables false
set_option linter.unusedSimpArgs false
namespace Go.Proofs.YtkokiahmgmeokaaGreat
open Go Go.RowKit Iv
attribute [local go_sem] Oper.semAt_some
attribute [local go_sem] B_getElem B_size B_app B_extract B_get B_toList
/-- a condition, asked while the row g is turned -/
def PredD (f : FuncId) (caps : Array Value) (Pd : Lbl → Bool) (g : Nat) (w : World) (l : List Lbl) : Prop := (∀ args W, (callFunc f args).run Tryz.prog W = .ok (.enter f args) W) ∧
  ∀ (x : Lbl) (W : World), x ∈ l → w.heap.size ≤ W.heap.size → (∀ q, q < w.heap.size → q ≠ g → W.heap[q]? = w.heap[q]?) → Calls Tryz.prog f (#[.agg #[.int .i64 x.nd, .int .i64 x.fr, .int .i64 x.tt, .int .i64 x.tm]] ++ caps) W fun e W' => e = .returned (.bool (Pd x)) ∧ Below W.heap.size W W'
theorem PredD.pred {f : FuncId} {caps : Array Value} {Pd : Lbl → Bool} {g : Nat} {w : World} {l : List Lbl} (h : PredD f caps Pd g w l) : PredL f caps Pd w l := ⟨h.1, fun x W hx hW => h.2 x W hx hW.size (fun q hq _ => hW.block q hq)⟩
def lbs (l : List Lbl) : List Value := l.flatMap lblC
theorem lbs_len (l : List Lbl) : (lbs l).length = l.length * 4 := flat_len lblC 4 lblC_len l
theorem lbs_snoc (l : List Lbl) (x : Lbl) : lbs (l ++ [x]) = lbs l ++ lblC x := by unfold lbs; rw [List.flatMap_append]; simp
theorem lbs_get (l : List Lbl) (q k : Nat) (hk : k < 4) {x : Lbl} (hx : l[q]? = some x) : (lbs l)[q * 4 + k]? = (lblC x)[k]? := by
  have := flat_get lblC 4 lblC_len l q k hk
  rw [hx] at this
  exact this
theorem RRow.of_lbs {w : World} {base n : Nat} {e : TypeId} {v : Value} {l : List Lbl} (h : w.ownsRow base e 4 v n (lbs l)) : RRow lblC 4 w w.heap.size v l := by
  have hl : n = l.length := by have := h.1; rw [lbs_len] at this; omega
  subst hl
  rcases h.2 with ⟨rfl, hz⟩ | ⟨g, cap, cur, rfl, hb, hg, hn, hm, hs, ht⟩
  · have : l = [] := List.eq_nil_of_length_eq_zero hz
    subst this
    exact RRow.nil _ _ _ _
  · refine ⟨_, cap, rfl, hn, hm, (fun h => by cases h), fun _ => ⟨g, 0, rfl, (Array.getElem?_eq_some_iff.1 hg).1, fun i x hx j u hu => ?_⟩⟩
    have hj : j < 4 := by have := (List.getElem?_eq_some_iff.1 hu).1; rwa [lblC_len] at this
    have := h.cells (g := g) rfl (i * 4 + j) u (by rw [lbs_get l i j hj hx]; exact hu)
    rw [addN] at this
    rw [Nat.add_assoc]
    exact this
/-- the row that DeleteFunc turns, j elements having been looked at -/
def DelR (cur : Array Value) (cap : Nat) (keep : Lbl → Bool) (O : List Lbl) (j : Nat) : Prop :=
  cur.size = cap * 4 ∧ (∀ (q : Nat) (x : Lbl), ((O.take j).filter keep)[q]? = some x → ∀ k, k < 4 → cur[q * 4 + k]? = (lblC x)[k]?) ∧ ∀ (q : Nat) (x : Lbl), j ≤ q → O[q]? = some x → ∀ k, k < 4 → cur[q * 4 + k]? = (lblC x)[k]?
theorem filter_ltL {keep : Lbl → Bool} {O : List Lbl} {j : Nat} : ((O.take j).filter keep).length ≤ j := Nat.le_trans (List.length_filter_le _ _) (List.length_take_le _ _)
theorem DelR.skip {cur : Array Value} {cap : Nat} {keep : Lbl → Bool} {O : List Lbl} {j : Nat} {x : Lbl} (h : DelR cur cap keep O j) (hx : O[j]? = some x) (hk : keep x = false) : DelR cur cap keep O (j + 1) := by
  obtain ⟨h1, h2, h3⟩ := h
  have e : (O.take (j + 1)).filter keep = (O.take j).filter keep := by rw [List.take_add_one, hx, List.filter_append]; simp [hk]
  exact ⟨h1, by rw [e]; exact h2, fun q y hq => h3 q y (by omega)⟩
theorem DelR.put {cur : Array Value} {cap : Nat} {keep : Lbl → Bool} {O : List Lbl} {j i : Nat} {x : Lbl} (h : DelR cur cap keep O j) (hx : O[j]? = some x) (hk : keep x = true) (hi : i = ((O.take j).filter keep).length) (hc : O.length ≤ cap) : DelR (setAll cur (i * 4) (lblC x)) cap keep O (j + 1) ∧ i + 1 = ((O.take (j + 1)).filter keep).length := by
  obtain ⟨h1, h2, h3⟩ := h
  have e : (O.take (j + 1)).filter keep = (O.take j).filter keep ++ [x] := by rw [List.take_add_one, hx, List.filter_append]; simp [hk]
  have hj := (List.getElem?_eq_some_iff.1 hx).1
  have hij : i ≤ j := by rw [hi]; exact filter_ltL
  have hfit : i * 4 + (lblC x).length ≤ cur.size := by rw [h1, lblC_len]; omega
  refine ⟨⟨by rw [setAll_size]; exact h1, fun q y hy k hk4 => ?_, fun q y hq hy k hk4 => ?_⟩, by rw [e, List.length_append, ← hi]; rfl⟩
  · rw [setAll_get _ _ _ _ hfit, lblC_len]
    rw [e] at hy
    rcases Nat.lt_or_ge q i with hq | hq
    · rw [List.getElem?_append_left (by rw [← hi]; exact hq)] at hy
      rw [if_neg (by omega)]
      exact h2 q y hy k hk4
    · rw [List.getElem?_append_right (by rw [← hi]; exact hq), ← hi] at hy
      obtain rfl : q = i := by
        rcases Nat.lt_or_ge i q with h' | h'
        · rw [List.getElem?_eq_none (by simp; omega)] at hy; cases hy
        · omega
      simp at hy
      subst hy
      rw [if_pos (by omega), show q * 4 + k - q * 4 = k by omega]
  · rw [setAll_get _ _ _ _ hfit, lblC_len, if_neg (by omega)]
    exact h3 q y (by omega) hy k hk4
theorem run_clear4 {P : Program} (w : World) (t e : TypeId) (ht : P.underlying t = some (.slice e)) (hv : ∀ w, (zeroValue e).run P w = .ok (.agg #[.int .i64 0, .int .i64 0, .int .i64 0, .int .i64 0]) w) (b o n c : Nat)
    (hc : ∀ j, j < n * 4 → (w.cell? ⟨b, o + j, none⟩).isSome = true) (hf : ∀ j, j < n * 4 → w.frozen? ⟨b, o + j, none⟩ = false) :
    ∃ cs : List Value, cs.length = n * 4 ∧ ∀ ty, (Builtin.clear_ #[t] ty #[.slice (some ⟨b, o, none⟩) n c]).run P w = .ok (.tuple #[]) (w.setCells b o cs) := by
  rcases Nat.eq_zero_or_pos n with rfl | hn
  · exact ⟨[], rfl, fun ty => by simp [Builtin.clear_, run_underlying ht, World.setCells]⟩
  · obtain ⟨cs, hcs⟩ : ∃ cs, (Builtin.zeroCells #[.int .i64 0, .int .i64 0, .int .i64 0, .int .i64 0] n).toList = cs := ⟨_, rfl⟩
    have hl : cs.length = n * 4 := by rw [← hcs]; simp [Builtin.zeroCells, Nat.mul_comm]
    have h1 : ∀ u ∈ cs, u.oneCell' = true := by
      intro u hu
      rw [← hcs] at hu
      simp [Builtin.zeroCells] at hu
      obtain ⟨i, _, rfl⟩ := hu
      have : i % 4 < 4 := Nat.mod_lt _ (by omega)
      rcases (show i % 4 = 0 ∨ i % 4 = 1 ∨ i % 4 = 2 ∨ i % 4 = 3 by omega) with h | h | h | h <;> simp [h] <;> rfl
    have hst := run_storeCells_cells (P := P) b o cs 0 w (by rw [hl]; simpa using hc) (by rw [hl]; simpa using hf) h1
    simp only [Nat.add_zero] at hst
    obtain ⟨m, rfl⟩ : ∃ m, n = m + 1 := ⟨n - 1, by omega⟩
    refine ⟨cs, hl, fun ty => ?_⟩
    have hz : (Value.agg #[.int .i64 0, .int .i64 0, .int .i64 0, .int .i64 0]).cells = #[.int .i64 0, .int .i64 0, .int .i64 0, .int .i64 0] := rfl
    simp [Builtin.clear_, run_underlying ht, hv, hz, hcs, hst]
theorem setAll_getL : ∀ (vs : List Value) (o : Nat) (cs : Array Value) (j : Nat), j < o → (setAll cs o vs)[j]? = cs[j]?
  | [], o, cs, j, _ => rfl
  | v :: r, o, cs, j, h => by
    rw [setAll, setAll_getL r (o + 1) _ j (by omega), Array.getElem?_setIfInBounds_ne (by omega)]
set_option maxRecDepth 100000 in
set_option maxHeartbeats 8000000 in
theorem del_any (O : List Lbl) (B g cap : Nat) (f : FuncId) (caps : Array Value) (Pd : Lbl → Bool) (w : World) (ho : w.ownsRow B 129 4 (.slice (some ⟨g, 0, none⟩) O.length cap) O.length (lbs O)) (hp : PredD f caps Pd g w O) (hex : ∃ x ∈ O, Pd x = true) (hl : O.length ≤ 1000000000000) :
    Calls Tryz.prog 64 #[.slice (some ⟨g, 0, none⟩) O.length cap, .func (.func f) #[] caps] w fun e w' => e = .returned (.slice (some ⟨g, 0, none⟩) (O.filter fun x => !Pd x).length cap) ∧ w'.ownsRow B 129 4 (.slice (some ⟨g, 0, none⟩) (O.filter fun x => !Pd x).length cap) (O.filter fun x => !Pd x).length (lbs (O.filter fun x => !Pd x)) ∧ (∀ q, q < w.heap.size → q ≠ g → w'.heap[q]? = w.heap[q]?) ∧ Below B w w' := by
  have hI := index_PredL O _ f caps Pd w (RRow.of_lbs ho) (hp.pred)
  rcases ho.2 with ⟨hz, h0⟩ | ⟨g', cap', cur, e, hBg, hg, hn, hm, hs, ht⟩
  · obtain ⟨x, hx, _⟩ := hex
    have : O = [] := List.eq_nil_of_length_eq_zero h0
    rw [this] at hx
    cases hx
  injection e with e1 e2 e3
  injection e1 with e1
  injection e1 with e1
  subst e1 e3
  have hcall := hp.1
  have HP := Lib.hid hp.2
  have HEX := Lib.hid hex
  have HG := Lib.hid hg
  have hgl : g < w.heap.size := (Array.getElem?_eq_some_iff.1 hg).1
  have HR0 : Hid (∀ (q : Nat) (x : Lbl), O[q]? = some x → ∀ k, k < 4 → cur[q * 4 + k]? = (lblC x)[k]?) := Lib.hid (fun q x hx k hk => by
    have h1 := lbs_get O q k hk hx
    have hq := (List.getElem?_eq_some_iff.1 hx).1
    have ht' : cur.toList.take (O.length * 4) = lbs O := ht
    rw [← ht', List.getElem?_take, if_pos (by omega)] at h1
    rw [← h1]; simp)
  have HS := Lib.hid hs
  unfold maxLen at hm
  clear hp hex hg hs ht ho
  go_enter Tryz.func64, Tryz.ntmps64
  go_wp2_with fail
  refine hI.mono ?_
  unfold PredLIdx
  rintro e w1 ⟨hb1, ⟨rfl, hall⟩ | ⟨k, rfl, hk, hpre, hdel⟩⟩
  · exfalso
    obtain ⟨x, hx, h1⟩ := HEX.out
    rw [hall x hx] at h1
    cases h1
  · have e0 : (O.take (k + 1)).filter (fun x => !Pd x) = O.take k := by
      rw [List.take_add_one, List.filter_append, List.filter_eq_self.2 (fun x hx => by simp [hpre x hx]), List.getElem?_eq_getElem hk]
      simp [hdel _ (List.getElem?_eq_getElem hk)]
    have R0 : DelR cur cap (fun x => !Pd x) O (k + 1) := by
      refine ⟨HS.out, fun q x hx => ?_, fun q x _ hx => HR0.out q x hx⟩
      rw [e0] at hx
      refine HR0.out q x ?_
      rw [List.getElem?_take] at hx
      split at hx
      · exact hx
      · cases hx
    have RR := Lib.hid R0
    have HK : Hid (k = ((O.take (k + 1)).filter (fun x => !Pd x)).length) := Lib.hid (by rw [e0, List.length_take]; omega)
    have HG1 : Hid (w1.heap[g]? = some (.cells cur 129 (0, 0))) := Lib.hid ((hb1.block _ hgl).trans HG.out)
    have HB1 := Lib.hid hb1
    have z1 : w.heap.size ≤ w1.heap.size := hb1.size
    clear hI hpre hdel e0 R0 hb1
    have hne : ((k : Int) == -1) = false := beq_eq_false_iff_ne.2 (by omega)
    go_wp2_with fail
    go_loopw [5, 6] (fun iv jv wr => ∃ (i j : Nat) (cu : Array Value), iv = .int .i64 (i : Int) ∧ jv = .int .i64 (j : Int) ∧ i < j ∧ j ≤ O.length ∧ Hid (i = ((O.take j).filter (fun x => !Pd x)).length) ∧ Hid (DelR cu cap (fun x => !Pd x) O j) ∧ Hid (wr.heap[g]? = some (.cells cu 129 (0, 0))) ∧ Hid (∀ q, q < w1.heap.size → q ≠ g → wr.heap[q]? = w1.heap[q]?) ∧ Hid (Below B w1 wr)) (fun _ jv _ => O.length - (intOf jv).toNat)
    case atStart => exact ⟨k, k + 1, cur, rfl, by go_num, by omega, by omega, HK, RR, HG1, Lib.hid (fun _ _ _ => rfl), Lib.hid (Below.refl _ _)⟩
    case round =>
      obtain ⟨i, j, cu, rfl, rfl, hij, hj, HI, HD, HGr, HO, HB⟩ := hrel
      clear HK RR HG1
      have hgr : g < wr.heap.size := (Array.getElem?_eq_some_iff.1 HGr.out).1
      have zr : w1.heap.size ≤ wr.heap.size := HB.out.size
      have j0 : (0 : Int) ≤ (j : Int) := by omega
      have i0 : (0 : Int) ≤ (i : Int) := by omega
      by_cases hlt : j < O.length
      · obtain ⟨x, hx⟩ : ∃ x, O[j]? = some x := ⟨_, List.getElem?_eq_getElem hlt⟩
        have hd := HD.out.2.2 j x (Nat.le_refl _) hx
        have p0 : wr.cell? ⟨g, j * 4, none⟩ = some (.int .i64 x.nd) := by rw [cellB HGr.out]; exact hd 0 (by omega)
        have p1 : wr.cell? ⟨g, j * 4 + 1, none⟩ = some (.int .i64 x.fr) := by rw [cellB HGr.out]; exact hd 1 (by omega)
        have p2 : wr.cell? ⟨g, j * 4 + 2, none⟩ = some (.int .i64 x.tt) := by rw [cellB HGr.out]; exact hd 2 (by omega)
        have p3 : wr.cell? ⟨g, j * 4 + 3, none⟩ = some (.int .i64 x.tm) := by rw [cellB HGr.out]; exact hd 3 (by omega)
        have j1 : (j : Int) < (O.length : Int) := by omega
        have i1 : (i : Int) < (O.length : Int) := by omega
        obtain ⟨q, hq⟩ : ∃ q, Pd x = q := ⟨_, rfl⟩
        have HQ := Lib.hid hq
        have HX := Lib.hid hx
        clear hd hx hq
        go_upto_region 8 with fail
        obtain ⟨w2, hw2⟩ : ∃ q, wr.alloc (.cells #[.int .i64 x.nd, .int .i64 x.fr, .int .i64 x.tt, .int .i64 x.tm] 129) = q := ⟨_, rfl⟩
        rw [hw2]
        have K2 : Below wr.heap.size wr w2 := by rw [← hw2]; exact balloc0 (Below.refl _ _)
        have XV : Hid (w2.heap[wr.heap.size]? = some (.cells #[.int .i64 x.nd, .int .i64 x.fr, .int .i64 x.tt, .int .i64 x.tm] 129 (0, 0))) := Lib.hid (by rw [← hw2]; exact heap_new)
        have z2 : wr.heap.size < w2.heap.size := by rw [← hw2]; simp
        obtain ⟨vB, hvB⟩ : ∃ q, wr.heap.size = q := ⟨_, rfl⟩
        have HK2 := Lib.hid K2
        have hgv : g < vB := by omega
        have zvw : w1.heap.size ≤ vB := by omega
        rw [hvB] at XV z2 ⊢
        have cv := fun o => cellB XV.out o
        clear hw2 K2 p0 p1 p2 p3
        have hold : ∀ q, q < w.heap.size → q ≠ g → w2.heap[q]? = w.heap[q]? := fun q hq hne => (HK2.out.block q (by omega)).trans ((HO.out q (by omega) hne).trans (HB1.out.block q hq))
        have hsz : w.heap.size ≤ w2.heap.size := by omega
        have HOLD := Lib.hid hold
        clear hold
        go_wp2_with fail
        refine (HP.out x _ (List.mem_of_getElem? HX.out) hsz HOLD.out).mono ?_
        rw [HQ.out]
        rintro e w3 ⟨rfl, hb3⟩
        have z3 : w2.heap.size ≤ w3.heap.size := hb3.size
        have HGr3 : Hid (w3.heap[g]? = some (.cells cu 129 (0, 0))) := Lib.hid ((hb3.block _ (by omega)).trans ((HK2.out.block _ (by omega)).trans HGr.out))
        have XV3 : Hid (w3.heap[vB]? = some (.cells #[.int .i64 x.nd, .int .i64 x.fr, .int .i64 x.tt, .int .i64 x.tm] 129 (0, 0))) := Lib.hid ((hb3.block _ z2).trans XV.out)
        have HO3 : Hid (∀ q, q < w1.heap.size → q ≠ g → w3.heap[q]? = w1.heap[q]?) := Lib.hid (fun q hq hne => (hb3.block q (by omega)).trans ((HK2.out.block q (by omega)).trans (HO.out q hq hne)))
        have HB3 : Hid (Below B w1 w3) := Lib.hid ((HB.out.trans (HK2.out.mono (by omega))).trans (hb3.mono (by omega)))
        have z4 : vB < w3.heap.size := by omega
        have cv3 := fun o => cellB XV3.out o
        clear cv hb3
        cases q with
        | true =>
          have HD2 := Lib.hid (HD.out.skip HX.out (by rw [HQ.out]; rfl))
          have HI2 : Hid (i = ((O.take (j + 1)).filter (fun x => !Pd x)).length) := Lib.hid (by
            rw [HI.out, List.take_add_one, HX.out, List.filter_append]; simp [HQ.out])
          go_wp2
          go_roundw
          case rel => exact ⟨i, j + 1, cu, rfl, by go_num, by omega, by omega, HI2, HD2, HGr3, HO3, HB3⟩
          case measure => simp [intOf]; omega
        | false =>
          have HDP := Lib.hid (HD.out.put (i := i) HX.out (by rw [HQ.out]; rfl) HI.out hn)
          have hi4 : i * 4 + 4 ≤ cu.size := by have := HD.out.1; omega
          go_wp2_with (refine wpList_store_mid rfl 129 _ _ rfl g (i * 4) #[.int .i64 x.nd, .int .i64 x.fr, .int .i64 x.tt, .int .i64 x.tm] rfl rfl (fun jj hjj => by have hjj' : jj < 4 := hjj; rw [cellB HGr3.out, frozenB HGr3.out]; exact ⟨by rw [Array.getElem?_eq_getElem (by omega)]; rfl, rfl⟩) (by kernel_rfl) (by simp [Value.oneCell']) ?_)
          have HGF : Hid ((w3.setCells g (i * 4) (lblC x)).heap[g]? = some (.cells (setAll cu (i * 4) (lblC x)) 129 (0, 0))) := Lib.hid (setAll_heap g _ _ _ _ _ HGr3.out)
          have HOF : Hid (∀ q, q < w1.heap.size → q ≠ g → (w3.setCells g (i * 4) (lblC x)).heap[q]? = w1.heap[q]?) := Lib.hid (fun q hq hne => (setCells_other g q hne _ _ _).trans (HO3.out q hq hne))
          have HBF : Hid (Below B w1 (w3.setCells g (i * 4) (lblC x))) := Lib.hid (HB3.out.trans (setCells_below g _ _ _ B hBg))
          obtain ⟨wF, hwF⟩ : ∃ q, w3.setCells g (i * 4) (lblC x) = q := ⟨_, rfl⟩
          have hwF' : w3.setCells g (i * 4) [.int .i64 x.nd, .int .i64 x.fr, .int .i64 x.tt, .int .i64 x.tm] = wF := hwF
          rw [hwF] at HGF HOF HBF
          (try rw [hwF'])
          (try rw [hwF])
          clear hwF hwF' cv3
          go_wp2
          go_roundw
          case rel => exact ⟨i + 1, j + 1, _, by go_num, by go_num, by omega, by omega, Lib.hid HDP.out.2, Lib.hid HDP.out.1, HGF, HOF, HBF⟩
          case measure => simp [intOf]; omega
      · obtain rfl : j = O.length := by omega
        have hsome : ∀ o, o < (O.length - i) * 4 → (wr.cell? ⟨g, i * 4 + o, none⟩).isSome = true := fun o ho => by
          rw [cellB HGr.out, Array.getElem?_eq_getElem (by have := HD.out.1; omega)]; rfl
        obtain ⟨cs, hcl, hcs⟩ := run_clear4 (P := Tryz.prog) wr 64 129 Tryz.underlying64 (fun W => by kernel_rfl) g (i * 4) (O.length - i) (cap - i) hsome (fun o _ => frozenB HGr.out _)
        have HCS := Lib.hid hcs
        have hi1 : i < O.length := by omega
        have hi2 : i < cap := by omega
        have hi3 : (i : Int) ≤ (O.length : Int) := by omega
        have hi4 : ¬ cap = i := by omega
        clear hsome HCS
        go_wp2
        go_ret
        have e1 : i = (O.filter (fun x => !Pd x)).length := by have := HI.out; rwa [List.take_length] at this
        have hgs : i * 4 + cs.length ≤ cap * 4 := by rw [hcl]; omega
        refine ⟨by rw [← e1]; rfl, ⟨by rw [lbs_len], Or.inr ⟨g, cap, setAll cu (i * 4) cs, by rw [← e1], hBg, setAll_heap g _ _ _ _ _ HGr.out, by rw [← e1]; omega, hm, by rw [setAll_size]; exact HD.out.1, ?_⟩⟩, fun q hq hne => (setCells_other g q hne _ _ _).trans ((HO.out q (by omega) hne).trans (HB1.out.block q hq)), ((HB1.out.mono (by omega)).trans HB.out).trans (setCells_below g _ _ _ B hBg)⟩
        rw [← e1]
        refine List.ext_getElem? fun q => ?_
        rcases Nat.lt_or_ge q (i * 4) with hq | hq
        · rw [List.getElem?_take, if_pos hq, Array.getElem?_toList, setAll_getL _ _ _ _ hq]
          obtain ⟨x, hx⟩ : ∃ x, (O.filter (fun x => !Pd x))[q / 4]? = some x := ⟨_, List.getElem?_eq_getElem (by omega)⟩
          have h1 := HD.out.2.1 (q / 4) x (by rw [List.take_length]; exact hx) (q % 4) (by omega)
          have h2 := lbs_get (O.filter (fun x => !Pd x)) (q / 4) (q % 4) (by omega) hx
          have h3 : q / 4 * 4 + q % 4 = q := by omega
          rw [h3] at h1 h2
          rw [h1, h2]
        · rw [List.getElem?_eq_none (by simp; omega), List.getElem?_eq_none (by rw [lbs_len]; omega)]
end Go.Proofs.YtkokiahmgmeokaaGreat
