/- Chapter 19: the walk of Groups. -/
import Derived.WalkSpells
import Derived.Test.YtpkklmkeflddkaaGreatRc
set_option linter.unusedVariables false
set_option linter.unusedSimpArgs false
namespace Go.Proofs.YtpkklmkeflddkaaGreat
open Go Go.RowKit
attribute [local go_sem] Oper.semAt_some
attribute [local go_sem] B_getElem B_size B_app B_extract B_get B_toList
theorem fill12 (z : Value) (v0 v1 v2 v3 v4 v5 v6 v7 v8 v9 v10 v11 : Value) (hz : z.cells.size = 12) : Instr.fill (fun i => some (i * 12, 12)) ((Array.range (1 * 12)).map (z.cells[· % z.cells.size]!)) [(0, .agg #[v0, v1, v2, v3, v4, v5, v6, v7, v8, v9, v10, v11])] = some #[v0, v1, v2, v3, v4, v5, v6, v7, v8, v9, v10, v11] := by
  have h : ∃ y0 y1 y2 y3 y4 y5 y6 y7 y8 y9 y10 y11 : Value, (Array.range (1 * 12)).map (z.cells[· % z.cells.size]!) = #[y0, y1, y2, y3, y4, y5, y6, y7, y8, y9, y10, y11] := ⟨z.cells[0 % z.cells.size]!, z.cells[1 % z.cells.size]!, z.cells[2 % z.cells.size]!, z.cells[3 % z.cells.size]!, z.cells[4 % z.cells.size]!, z.cells[5 % z.cells.size]!, z.cells[6 % z.cells.size]!, z.cells[7 % z.cells.size]!, z.cells[8 % z.cells.size]!, z.cells[9 % z.cells.size]!, z.cells[10 % z.cells.size]!, z.cells[11 % z.cells.size]!, by rw [show Array.range (1 * 12) = #[0, 1, 2, 3, 4, 5, 6, 7, 8, 9, 10, 11] from by decide]; simp only [List.map_toArray, List.map_cons, List.map_nil]⟩
  obtain ⟨y0, y1, y2, y3, y4, y5, y6, y7, y8, y9, y10, y11, h⟩ := h
  rw [h]
  simp [go_sem]
theorem wp_litBun {o : Oper} {a : Act} {w : World} {K : Act → World → Prop} {Q : Exit → Act → World → Prop} {x : Operand} (ho : o.op = .buildSlice 22 1 #[(0, x)]) (b : Bun) (u : Value) (hx : a.eval x = .agg (bunC b u).toArray)
    (h : K (a.put o.dst (.slice (some ⟨w.heap.size, 0, none⟩) 1 1)) (w.alloc (.cells (bunC b u).toArray 31))) : o.wp Tryz.prog a w K Q := by
  have hf := fun z hz => fill12 z (.int .i64 b.src) (.int .i64 b.crt) (.int .i64 b.seq) (.int .i64 b.off) (.int .i64 b.tot) (.int .i64 b.dk) (.int .i64 b.dn) (.int .i64 b.life) (.int .i64 b.prio) (.int .i64 b.flags) u (.string (B b.payload)) hz
  unfold Oper.wp execOp
  simp only [ho, List.map_toArray, List.map_cons, List.map_nil, hx]
  simp only [bunC] at h ⊢
  go_simp
  exact h
theorem infoBuns : (Tryz.prog.info? 22).map (fun i => (i.zero, i.size, i.bytes)) = some (some (.slice none 0 0), 1, 24) := by kernel_rfl
section
variable {most : Int} {w : World} {gs : List (List Int)} {gv : List (List BV)} {vals vals2 : List Value} {s6 s7 : Value} {w5 : World}
theorem two_apps {W1 W3 W2 W4 : World} {q n : Nat} {x y x' y' : Value} {xs : List Value} (hb : GBase most w gs gv vals vals2 s6 s7 w5) (hx : vals[q]? = some x) (hy : vals2[q]? = some y)
    (k1 : Below w5.heap.size w5 W1) (g1 : W1.grownBy W3 x.ownBlock) (k2 : Below W3.heap.size W3 W2) (g2 : W2.grownBy W4 y.ownBlock) (ho3 : W3.ownsRow (w.heap.size + 1) 3 1 x' n xs)
    (hf3 : x'.ownBlock = x.ownBlock ∨ x'.ownBlock = some W1.heap.size) (hf4 : y'.ownBlock = y.ownBlock ∨ y'.ownBlock = some W2.heap.size) :
    W4.ownsRow (w.heap.size + 1) 3 1 x' n xs ∧ (∀ z, z < w5.heap.size → x.ownBlock ≠ some z → y.ownBlock ≠ some z → W4.heap[z]? = w5.heap[z]?) ∧ (∀ z, x'.ownBlock = some z → x.ownBlock = some z ∨ w5.heap.size ≤ z) ∧ (∀ z, y'.ownBlock = some z → y.ownBlock = some z ∨ w5.heap.size ≤ z) ∧ Below w.heap.size w W4 := by
  obtain ⟨g, _, hxo⟩ := hb.out.inner hx
  obtain ⟨h, _, hyo⟩ := hb.grp.inner hy
  have z1 := k1.size
  have z3 := g1.size
  have z2 := k2.size
  have z4 := g2.size
  have hyx : ∀ z, y.ownBlock = some z → x.ownBlock ≠ some z := fun z hz => own_typ hyo hxo (by decide) hz
  have hy3 : W3.ownsRow (w.heap.size + 1) 31 12 y h.length (flatU h) := own_kept1 hyo fun z hz => (grown_keep g1 (by have := (hyo.lt z hz).2; omega) (hyx z hz)).trans (k1.block z (hyo.lt z hz).2)
  have hy2 : W2.ownsRow (w.heap.size + 1) 31 12 y h.length (flatU h) := own_kept1 hy3 fun z hz => k2.block z (hy3.lt z hz).2
  have hx2 : W2.ownsRow (w.heap.size + 1) 3 1 x' n xs := own_kept1 ho3 fun z hz => k2.block z (ho3.lt z hz).2
  have hB1 : Below w.heap.size w W1 := btrans0 hb.below k1
  have hB3 : Below w.heap.size w W3 := hB1.grown g1 hB1.size fun z hz => by have := (hxo.lt z hz).1; omega
  have hB2 : Below w.heap.size w W2 := btrans0 hB3 k2
  refine ⟨own_kept1 hx2 fun z hz => grown_keep g2 (hx2.lt z hz).2 (own_typ hx2 hy2 (by decide) hz), fun z hz h1 h2 => ?_, fun z hz => ?_, fun z hz => ?_, hB2.grown g2 hB2.size fun z hz => by have := (hyo.lt z hz).1; omega⟩
  · rw [grown_keep g2 (by omega) h2, k2.block z (by omega), grown_keep g1 (by omega) h1, k1.block z hz]
  · rcases hf3 with e | e
    · exact .inl (by rw [← e]; exact hz)
    · rw [e] at hz; cases hz; exact .inr z1
  · rcases hf4 with e | e
    · exact .inl (by rw [← e]; exact hz)
    · rw [e] at hz; cases hz; exact .inr (by omega)
theorem gfacts {V : World} {q go gq c6 c7 : Nat} {x y : Value} (hb : GBase most w gs gv vals vals2 (.slice (some ⟨go, 0, none⟩) gs.length c6) (.slice (some ⟨gq, 0, none⟩) gv.length c7) w5) (hx : vals[q]? = some x) (hy : vals2[q]? = some y)
    (h6 : V.heap[go]? = w5.heap[go]?) (h7 : V.heap[gq]? = w5.heap[gq]?) : (V.cell? ⟨go, q, none⟩ = some x ∧ V.frozen? ⟨go, q, none⟩ = false) ∧ (V.cell? ⟨gq, q, none⟩ = some y ∧ V.frozen? ⟨gq, q, none⟩ = false) := by
  have r1 := own_kept1 (w' := V) hb.out.1 fun z hz => by cases hz; exact h6
  have r2 := own_kept1 (w' := V) hb.grp.1 fun z hz => by cases hz; exact h7
  have a1 := r1.cells (g := go) rfl q _ hx
  have a2 := r2.cells (g := gq) rfl q _ hy
  rw [addN, Nat.zero_add] at a1 a2
  exact ⟨⟨a1, r1.frozenAt q⟩, a2, r2.frozenAt q⟩
theorem gtypes {q go gq c6 c7 : Nat} {x y : Value} (hb : GBase most w gs gv vals vals2 (.slice (some ⟨go, 0, none⟩) gs.length c6) (.slice (some ⟨gq, 0, none⟩) gv.length c7) w5) (hx : vals[q]? = some x) (hy : vals2[q]? = some y) :
    go < w5.heap.size ∧ gq < w5.heap.size ∧ x.ownBlock ≠ some go ∧ x.ownBlock ≠ some gq ∧ y.ownBlock ≠ some go ∧ y.ownBlock ≠ some gq ∧ go ≠ gq := by
  obtain ⟨g, _, hxo⟩ := hb.out.inner hx
  obtain ⟨h, _, hyo⟩ := hb.grp.inner hy
  exact ⟨(hb.out.1.lt go rfl).2, (hb.grp.1.lt gq rfl).2, fun e => own_typ hxo hb.out.1 (by decide) e rfl, fun e => own_typ hxo hb.grp.1 (by decide) e rfl, fun e => own_typ hyo hb.out.1 (by decide) e rfl, fun e => own_typ hyo hb.grp.1 (by decide) e rfl, fun e => own_typ hb.out.1 hb.grp.1 (by decide) (q := go) rfl (by rw [e]; rfl)⟩
end
def GroupsPost (l : List Bun) (most : Int) (w : World) (e : Ending) (w' : World) : Prop := ∃ r, e = .returned (.tuple #[r, .int .i64 (grS l most).2]) ∧ Below w.heap.size w w' ∧ OwnG w' w.heap.size r (grS l most).1
theorem grow_grp {most : Int} {w : World} {gs : List (List Int)} {gv : List (List BV)} {vals vals2 : List Value} {s6 s7 : Value} {wr w5 : World} {o1 o2 : Obj} (hb : GBase most w gs gv vals vals2 s6 s7 wr) (hg5 : (wr.alloc o1).grownBy w5 s6.ownBlock) : (w5.alloc o2).ownsRow (w.heap.size + 1) 22 1 s7 gv.length vals2 := by
  have hb1 := hb.step (balloc0 (Below.refl _ _) : Below wr.heap.size wr (wr.alloc o1))
  have h5 : w5.ownsRow (w.heap.size + 1) 22 1 s7 gv.length vals2 := own_kept1 hb1.grp.1 fun q hq => grown_keep hg5 (hb1.grp.1.lt q hq).2 (own_typ hb1.grp.1 hb1.out.1 (by decide) hq)
  exact own_kept1 h5 fun q hq => (balloc0 (Below.refl _ _) : Below w5.heap.size w5 (w5.alloc o2)).block q (h5.lt q hq).2
set_option maxRecDepth 100000 in
set_option maxHeartbeats 16000000 in
theorem groups_any (l : List Bun) (v : Value) (most : Int) (w : World) (h : RBuns w w.heap.size v l) (hf : ∀ x ∈ l, Fits x) :
    Calls Tryz.prog 8 #[v, .int .i64 most] w (GroupsPost l most w) := by
  have HR := Lib.hid h
  have HF := Lib.hid hf
  obtain ⟨a, c, rfl, h1, h2, h3, h4⟩ := h
  unfold maxLen at h2
  have hlen : l.length ≤ 9223372036854775807 := by omega
  have H4 := Lib.hid h4
  clear h3 h4 hf
  by_cases g1 : 64 < l.length
  · have HP : Hid (grS l most = ([], 4)) := Lib.hid (if_pos g1)
    have d1 : decide ((64 : Int) < (l.length : Int)) = true := by rw [decide_eq_true_eq]; omega
    go_enter Tryz.func8, Tryz.ntmps8
    go_wp2
    go_ret2
    unfold GroupsPost
    rw [HP.out]
    exact ⟨_, rfl, (by repeat' (first | with_reducible (first | refine bset ?_ ?_ | exact Below.refl _ _ | assumption | refine bdrewN ?_ _ | refine bdrew ?_ | refine balloc0 ?_ | refine balloc ?_ ?_ | (apply btrans0; rotate_left; assumption) | (apply btrans; rotate_left; assumption)) | exact Below.refl _ _ | assumption | (apply btrans0; rotate_left; assumption) | (apply btrans; rotate_left; assumption) | (simp; done) | omega | (simp; omega))), ⟨[], OwnV.nil⟩⟩
  have d1 : decide ((64 : Int) < (l.length : Int)) = false := by rw [decide_eq_false_iff_not]; omega
  obtain ⟨s1, hs1⟩ : ∃ q, l.any (fun x => chkE x != 0) = q := ⟨_, rfl⟩
  have HS1 := Lib.hid hs1
  cases s1 with
  | true =>
    have HP : Hid (grS l most = ([], 1)) := Lib.hid (by unfold grS; rw [if_neg g1, if_pos hs1])
    clear g1 hs1
    go_enter Tryz.func8, Tryz.ntmps8
    go_wp2_with fail
    refine (contains_PredB l _ _ _ _ _ (HR.out.below'' (balloc0 (Below.refl _ _))) (gr1_pred _ _ HF.out)).mono ?_
    rw [HS1.out]
    rintro e w1 ⟨rfl, hb1⟩
    have b1 : Below w.heap.size w w1 := btrans0 (balloc0 (Below.refl _ _)) hb1
    have A1 : Hid (w1.heap[w.heap.size]? = some (.cells #[.int .i64 most] 3 (0, 0))) := Lib.hid ((hb1.block _ (by simp)).trans heap_new)
    have z1 : w.heap.size < w1.heap.size := by have := hb1.size; (try simp at this); omega
    clear hb1
    go_wp2
    go_ret2
    unfold GroupsPost
    rw [HP.out]
    exact ⟨_, rfl, (by repeat' (first | with_reducible (first | refine bset ?_ ?_ | exact Below.refl _ _ | assumption | refine bdrewN ?_ _ | refine bdrew ?_ | refine balloc0 ?_ | refine balloc ?_ ?_ | (apply btrans0; rotate_left; assumption) | (apply btrans; rotate_left; assumption)) | exact Below.refl _ _ | assumption | (apply btrans0; rotate_left; assumption) | (apply btrans; rotate_left; assumption) | (simp; done) | omega | (simp; omega))), ⟨[], OwnV.nil⟩⟩
  | false =>
  have HALL : Hid (∀ x ∈ l, chkE x = 0) := Lib.hid (any_chk hs1)
  obtain ⟨s2, hs2⟩ : ∃ q, l.any joinedB = q := ⟨_, rfl⟩
  have HS2 := Lib.hid hs2
  cases s2 with
  | true =>
    have HP : Hid (grS l most = ([], 8)) := Lib.hid (by unfold grS; rw [if_neg g1, if_neg (by rw [hs1]; simp), if_pos hs2])
    clear g1 hs1 hs2
    go_enter Tryz.func8, Tryz.ntmps8
    go_wp2_with fail
    refine (contains_PredB l _ _ _ _ _ (HR.out.below'' (balloc0 (Below.refl _ _))) (gr1_pred _ _ HF.out)).mono ?_
    rw [HS1.out]
    rintro e w1 ⟨rfl, hb1⟩
    have b1 : Below w.heap.size w w1 := btrans0 (balloc0 (Below.refl _ _)) hb1
    have A1 : Hid (w1.heap[w.heap.size]? = some (.cells #[.int .i64 most] 3 (0, 0))) := Lib.hid ((hb1.block _ (by simp)).trans heap_new)
    have z1 : w.heap.size < w1.heap.size := by have := hb1.size; (try simp at this); omega
    clear hb1
    go_wp2_with fail
    refine (contains_PredB l _ _ _ _ _ (HR.out.below'' b1) (joined_pred _ _ HALL.out)).mono ?_
    rw [HS2.out]
    rintro e w2 ⟨rfl, hb2⟩
    have b2 : Below w.heap.size w w2 := btrans0 b1 hb2
    have A2 : Hid (w2.heap[w.heap.size]? = some (.cells #[.int .i64 most] 3 (0, 0))) := Lib.hid ((hb2.block _ z1).trans A1.out)
    have z2 : w.heap.size < w2.heap.size := by have := hb2.size; omega
    have ca := fun o => cellB A2.out o
    clear hb2
    go_wp2
    go_ret2
    unfold GroupsPost
    rw [HP.out]
    exact ⟨_, rfl, (by repeat' (first | with_reducible (first | refine bset ?_ ?_ | exact Below.refl _ _ | assumption | refine bdrewN ?_ _ | refine bdrew ?_ | refine balloc0 ?_ | refine balloc ?_ ?_ | (apply btrans0; rotate_left; assumption) | (apply btrans; rotate_left; assumption)) | exact Below.refl _ _ | assumption | (apply btrans0; rotate_left; assumption) | (apply btrans; rotate_left; assumption) | (simp; done) | omega | (simp; omega))), ⟨[], OwnV.nil⟩⟩
  | false =>
  by_cases g2 : most < 1
  · have HP : Hid (grS l most = ([], 2)) := Lib.hid (by unfold grS; rw [if_neg g1, if_neg (by rw [hs1]; simp), if_neg (by rw [hs2]; simp), if_pos (.inl g2)])
    have d2 : decide (most < 1) = true := decide_eq_true g2
    clear g1 g2 hs1 hs2
    go_enter Tryz.func8, Tryz.ntmps8
    go_wp2_with fail
    refine (contains_PredB l _ _ _ _ _ (HR.out.below'' (balloc0 (Below.refl _ _))) (gr1_pred _ _ HF.out)).mono ?_
    rw [HS1.out]
    rintro e w1 ⟨rfl, hb1⟩
    have b1 : Below w.heap.size w w1 := btrans0 (balloc0 (Below.refl _ _)) hb1
    have A1 : Hid (w1.heap[w.heap.size]? = some (.cells #[.int .i64 most] 3 (0, 0))) := Lib.hid ((hb1.block _ (by simp)).trans heap_new)
    have z1 : w.heap.size < w1.heap.size := by have := hb1.size; (try simp at this); omega
    clear hb1
    go_wp2_with fail
    refine (contains_PredB l _ _ _ _ _ (HR.out.below'' b1) (joined_pred _ _ HALL.out)).mono ?_
    rw [HS2.out]
    rintro e w2 ⟨rfl, hb2⟩
    have b2 : Below w.heap.size w w2 := btrans0 b1 hb2
    have A2 : Hid (w2.heap[w.heap.size]? = some (.cells #[.int .i64 most] 3 (0, 0))) := Lib.hid ((hb2.block _ z1).trans A1.out)
    have z2 : w.heap.size < w2.heap.size := by have := hb2.size; omega
    have ca := fun o => cellB A2.out o
    clear hb2
    go_wp2
    go_ret2
    unfold GroupsPost
    rw [HP.out]
    exact ⟨_, rfl, (by repeat' (first | with_reducible (first | refine bset ?_ ?_ | exact Below.refl _ _ | assumption | refine bdrewN ?_ _ | refine bdrew ?_ | refine balloc0 ?_ | refine balloc ?_ ?_ | (apply btrans0; rotate_left; assumption) | (apply btrans; rotate_left; assumption)) | exact Below.refl _ _ | assumption | (apply btrans0; rotate_left; assumption) | (apply btrans; rotate_left; assumption) | (simp; done) | omega | (simp; omega))), ⟨[], OwnV.nil⟩⟩
  have d2 : decide (most < 1) = false := decide_eq_false g2
  by_cases g3 : 4096 < most
  · have HP : Hid (grS l most = ([], 2)) := Lib.hid (by unfold grS; rw [if_neg g1, if_neg (by rw [hs1]; simp), if_neg (by rw [hs2]; simp), if_pos (.inr g3)])
    have d3 : decide (4096 < most) = true := decide_eq_true g3
    clear g1 g2 g3 hs1 hs2
    go_enter Tryz.func8, Tryz.ntmps8
    go_wp2_with fail
    refine (contains_PredB l _ _ _ _ _ (HR.out.below'' (balloc0 (Below.refl _ _))) (gr1_pred _ _ HF.out)).mono ?_
    rw [HS1.out]
    rintro e w1 ⟨rfl, hb1⟩
    have b1 : Below w.heap.size w w1 := btrans0 (balloc0 (Below.refl _ _)) hb1
    have A1 : Hid (w1.heap[w.heap.size]? = some (.cells #[.int .i64 most] 3 (0, 0))) := Lib.hid ((hb1.block _ (by simp)).trans heap_new)
    have z1 : w.heap.size < w1.heap.size := by have := hb1.size; (try simp at this); omega
    clear hb1
    go_wp2_with fail
    refine (contains_PredB l _ _ _ _ _ (HR.out.below'' b1) (joined_pred _ _ HALL.out)).mono ?_
    rw [HS2.out]
    rintro e w2 ⟨rfl, hb2⟩
    have b2 : Below w.heap.size w w2 := btrans0 b1 hb2
    have A2 : Hid (w2.heap[w.heap.size]? = some (.cells #[.int .i64 most] 3 (0, 0))) := Lib.hid ((hb2.block _ z1).trans A1.out)
    have z2 : w.heap.size < w2.heap.size := by have := hb2.size; omega
    have ca := fun o => cellB A2.out o
    clear hb2
    go_wp2
    go_ret2
    unfold GroupsPost
    rw [HP.out]
    exact ⟨_, rfl, (by repeat' (first | with_reducible (first | refine bset ?_ ?_ | exact Below.refl _ _ | assumption | refine bdrewN ?_ _ | refine bdrew ?_ | refine balloc0 ?_ | refine balloc ?_ ?_ | (apply btrans0; rotate_left; assumption) | (apply btrans; rotate_left; assumption)) | exact Below.refl _ _ | assumption | (apply btrans0; rotate_left; assumption) | (apply btrans; rotate_left; assumption) | (simp; done) | omega | (simp; omega))), ⟨[], OwnV.nil⟩⟩
  have d3 : decide (4096 < most) = false := decide_eq_false g3
  have HP0 : Hid (grS l most = ((groupL most l 0 ([], [])).1, 0)) := Lib.hid (by unfold grS; rw [if_neg g1, if_neg (by rw [hs1]; simp), if_neg (by rw [hs2]; simp), if_neg (by omega)])
  obtain ⟨R, hR⟩ : ∃ q, groupL most l 0 ([], []) = q := ⟨_, rfl⟩
  rw [hR] at HP0
  have HRR := Lib.hid hR
  have hl64 : l.length ≤ 64 := by omega
  clear hs1 hs2 hR g1 g2 g3
  go_enter Tryz.func8, Tryz.ntmps8
  go_wp2_with fail
  refine (contains_PredB l _ _ _ _ _ (HR.out.below'' (balloc0 (Below.refl _ _))) (gr1_pred _ _ HF.out)).mono ?_
  rw [HS1.out]
  rintro e w1 ⟨rfl, hb1⟩
  have b1 : Below w.heap.size w w1 := btrans0 (balloc0 (Below.refl _ _)) hb1
  have A1 : Hid (w1.heap[w.heap.size]? = some (.cells #[.int .i64 most] 3 (0, 0))) := Lib.hid ((hb1.block _ (by simp)).trans heap_new)
  have z1 : w.heap.size < w1.heap.size := by have := hb1.size; (try simp at this); omega
  clear hb1
  go_wp2_with fail
  refine (contains_PredB l _ _ _ _ _ (HR.out.below'' b1) (joined_pred _ _ HALL.out)).mono ?_
  rw [HS2.out]
  rintro e w2 ⟨rfl, hb2⟩
  have b2 : Below w.heap.size w w2 := btrans0 b1 hb2
  have A2 : Hid (w2.heap[w.heap.size]? = some (.cells #[.int .i64 most] 3 (0, 0))) := Lib.hid ((hb2.block _ z1).trans A1.out)
  have z2 : w.heap.size < w2.heap.size := by have := hb2.size; omega
  have ca := fun o => cellB A2.out o
  clear hb2
  clear ca
  have ca := cellB A2.out 0
  go_wp2
  clear ca
  go_loopw [6, 7, 26] (fun s6 s7 s26 wr => GLoop l most w R s6 s7 s26 wr) (fun _ _ i _ => l.length - (intOf i).toNat)
  case atStart => exact ⟨0, [], [], [], [], Nat.zero_le _, rfl, HRR.out, Nat.le_refl _, fun g hg => (by cases hg), fun g hg => (by cases hg), rfl, OwnV.nil, OwnV.nil, fun g hg => (by cases hg), A2.out, b2⟩
  case round =>
    obtain ⟨k, gs, gv, vals, vals2, hk, rfl, hpk, hgk, hgl1, hgl2, hb⟩ := hrel
    obtain ⟨a6, c6, rfl⟩ := own_shape hb.out.1
    obtain ⟨a7, c7, rfl⟩ := own_shape hb.grp.1
    have HPK := Lib.hid hpk
    have HGL1 := Lib.hid hgl1
    have HGL2 := Lib.hid hgl2
    have HBS := Lib.hid hb
    have hB := hb.below
    have zA : w.heap.size < wr.heap.size := heap_lt hb.box
    clear hpk hb hgl1 hgl2
    by_cases hlt : k < l.length
    · obtain ⟨bb, o, rfl, hbn, hcell⟩ := H4.out (by omega)
      obtain ⟨x, hx⟩ : ∃ x, l[k]? = some x := ⟨_, List.getElem?_eq_getElem hlt⟩
      obtain ⟨ux, hc, hub⟩ := hcell k x hx
      have q0 : wr.cell? ⟨bb, o + k * 12, none⟩ = some (.int .i64 x.src) := (hB.cell (p := ⟨bb, o + k * 12 + 0, none⟩) hbn).trans (hc 0 _ rfl)
      have q1 : wr.cell? ⟨bb, o + k * 12 + 1, none⟩ = some (.int .i64 x.crt) := (hB.cell (p := ⟨bb, o + k * 12 + 1, none⟩) hbn).trans (hc 1 _ rfl)
      have q2 : wr.cell? ⟨bb, o + k * 12 + 2, none⟩ = some (.int .i64 x.seq) := (hB.cell (p := ⟨bb, o + k * 12 + 2, none⟩) hbn).trans (hc 2 _ rfl)
      have q3 : wr.cell? ⟨bb, o + k * 12 + 3, none⟩ = some (.int .i64 x.off) := (hB.cell (p := ⟨bb, o + k * 12 + 3, none⟩) hbn).trans (hc 3 _ rfl)
      have q4 : wr.cell? ⟨bb, o + k * 12 + 4, none⟩ = some (.int .i64 x.tot) := (hB.cell (p := ⟨bb, o + k * 12 + 4, none⟩) hbn).trans (hc 4 _ rfl)
      have q5 : wr.cell? ⟨bb, o + k * 12 + 5, none⟩ = some (.int .i64 x.dk) := (hB.cell (p := ⟨bb, o + k * 12 + 5, none⟩) hbn).trans (hc 5 _ rfl)
      have q6 : wr.cell? ⟨bb, o + k * 12 + 6, none⟩ = some (.int .i64 x.dn) := (hB.cell (p := ⟨bb, o + k * 12 + 6, none⟩) hbn).trans (hc 6 _ rfl)
      have q7 : wr.cell? ⟨bb, o + k * 12 + 7, none⟩ = some (.int .i64 x.life) := (hB.cell (p := ⟨bb, o + k * 12 + 7, none⟩) hbn).trans (hc 7 _ rfl)
      have q8 : wr.cell? ⟨bb, o + k * 12 + 8, none⟩ = some (.int .i64 x.prio) := (hB.cell (p := ⟨bb, o + k * 12 + 8, none⟩) hbn).trans (hc 8 _ rfl)
      have q9 : wr.cell? ⟨bb, o + k * 12 + 9, none⟩ = some (.int .i64 x.flags) := (hB.cell (p := ⟨bb, o + k * 12 + 9, none⟩) hbn).trans (hc 9 _ rfl)
      have q10 : wr.cell? ⟨bb, o + k * 12 + 10, none⟩ = some (ux) := (hB.cell (p := ⟨bb, o + k * 12 + 10, none⟩) hbn).trans (hc 10 _ rfl)
      have q11 : wr.cell? ⟨bb, o + k * 12 + 11, none⟩ = some (.string (B x.payload)) := (hB.cell (p := ⟨bb, o + k * 12 + 11, none⟩) hbn).trans (hc 11 _ rfl)
      have HUB := Lib.hid hub
      obtain ⟨xa, xc, rfl, _⟩ := id hub
      have k0 : (0 : Int) ≤ (k : Int) := by omega
      have k1 : (k : Int) < (l.length : Int) := by omega
      have HX := Lib.hid hx
      have HFX := Lib.hid (HF.out x (List.mem_of_getElem? hx))
      clear hc hub hx hcell
      go_wp2_with fail
      have b3 : Below wr.heap.size wr (wr.alloc (.cells (bunC x (.slice xa x.blocks.length xc)).toArray 31)) := balloc0 (Below.refl _ _)
      have HN3 := Lib.hid (heap_new (W := wr) (o := (.cells (bunC x (.slice xa x.blocks.length xc)).toArray 31)))
      simp only [bunC] at b3 HN3
      generalize wr.alloc (.cells _ 31) = w3 at *
      have HN3' : w3.heap[wr.heap.size]? = some (.cells (bunC x (.slice xa x.blocks.length xc)).toArray 31 (0, 0)) := HN3.out
      have B3 : Below w.heap.size w w3 := btrans0 hB b3
      have HB3 := Lib.hid (HBS.out.step b3)
      refine (index_PredV gv vals2 _ _ _ _ _ _ HB3.out.grp (gr2_pred x _ most _ _ _ _ HN3' (HUB.out.below' B3) HB3.out.box HFX.out (fun g hg => ⟨by have := HGL2.out g hg; omega, fun r hr => ⟨(HB3.out.okk g hg r hr).1.below' B3, (HB3.out.okk g hg r hr).2⟩⟩)) (by omega)).mono ?_
      rintro e w4 ⟨hb4, he⟩
      have hr : ∃ r : Int, e = .returned (.int .i64 r) ∧ ((r = -1 ∧ ∀ y ∈ gv, fitB most x (buns y) = false) ∨ ∃ q : Nat, r = q ∧ q < gv.length ∧ (∀ y ∈ gv.take q, fitB most x (buns y) = false) ∧ ∀ y, gv[q]? = some y → fitB most x (buns y) = true) := by
        rcases he with ⟨rfl, h1⟩ | ⟨q, rfl, h1⟩
        · exact ⟨_, rfl, .inl ⟨rfl, h1⟩⟩
        · exact ⟨_, rfl, .inr ⟨q, rfl, h1⟩⟩
      clear he
      obtain ⟨r, rfl, hr⟩ := hr
      have HRR2 := Lib.hid hr
      clear hr
      have b4 : Below wr.heap.size wr w4 := btrans0 b3 hb4
      have HB4 := Lib.hid (HBS.out.step b4)
      have HM4 := Lib.hid ((HBS.out.newbox HN3').step hb4)
      obtain ⟨p, hp⟩ : ∃ p, wr.heap.size = p := ⟨_, rfl⟩
      rw [hp] at HM4
      have hpw : w.heap.size < p := by omega
      have zW : w.heap.size + 1 ≤ w4.heap.size := by have := b4.size; omega
      clear b3 hb4 HN3 HN3' b4 B3 q0 q1 q2 q3 q4 q5 q6 q7 q8 q9 q10 q11
      go_upto_if 35 with fail
      go_cut [6, 7, 10] (fun s6 s7 s10 wx => GMid l most w R k x (.slice xa x.blocks.length xc) wr.heap.size s6 s7 s10 wx)
      case first =>
        rcases HRR2.out with ⟨rfl, hall⟩ | ⟨q, rfl, hq, h1, h2⟩
        · have dm : decide ((-1 : Int) < 0) = true := by decide
          obtain ⟨i0, hin, hz0, hz1, hz2⟩ := info_parts infoInts
          obtain ⟨i1, hjn, hj0, hj1, hj2⟩ := info_parts infoBuns
          have HALL2 := Lib.hid hall
          clear hall
          go_wp2_with (first | (at_builtin; refine wpList_append_F _ rfl _ _ _ rfl (w.heap.size + 1) 43 i0 _ 1 24 Tryz.underlying35 hin hz0 hz1 hz2 rfl (by omega) _ gs.length vals rfl (own_kept1 HB4.out.out.1 (fun q hq => Below.heap_alloc _ _ _ (HB4.out.out.1.lt q hq).2)) ⟨w4.heap.size, 0, none⟩ 1 1 [.slice none 0 0] rfl rfl (news_one heap_new) (by simp [Value.oneCell']) (by have := HB4.out.len; simp only [maxLen]; omega) (by have := HB4.out.len; omega) (by simp; omega) (by omega) ?_; intro v5 w5 hO5 hg5 hf5) | (at_builtin; refine wpList_append_F _ rfl _ _ _ rfl (w.heap.size + 1) 22 i1 _ 1 24 Tryz.underlying54 hjn hj0 hj1 hj2 rfl (by omega) _ gv.length vals2 rfl (grow_grp HB4.out hg5) ⟨w5.heap.size, 0, none⟩ 1 1 [.slice none 0 0] rfl rfl (news_one heap_new) (by simp [Value.oneCell']) (by simp only [maxLen]; omega) (by omega) (by have := hg5.size; simp at this; simp; omega) (by omega) ?_; intro v6 w6 hO6 hg6 hf6))
          go_meet
          exact gmid_new HX.out HPK.out hgk HGL1.out HGL2.out HALL2.out HB4.out (hp ▸ HM4.out) (hp ▸ hpw) hO5 hg5 hO6 hg6
        · have dm : decide ((q : Int) < 0) = false := by rw [decide_eq_false_iff_not]; omega
          have H1 := Lib.hid h1
          have H2 := Lib.hid h2
          clear h1 h2
          go_wp2_with fail
          go_meet
          exact gmid_old HX.out HPK.out hgk HGL1.out HGL2.out hq H1.out H2.out HB4.out (hp ▸ HM4.out)
      case rest =>
        rw [hp] at hcut
        obtain ⟨q, gs', gv', vals', vals2', rfl, hq, hpk, hgk', hg1', hg2', hb', hn'⟩ := hcut
        have HG1 := Lib.hid hg1'
        have HG2 := Lib.hid hg2'
        have HPK1 := Lib.hid hpk
        clear hg1' hg2' hpk
        obtain ⟨w5, rfl⟩ : ∃ q, q = wc := ⟨_, rfl⟩
        obtain ⟨gq, c7', rfl⟩ := own_form hb'.grp.1 (by omega)
        obtain ⟨go, c6', rfl⟩ := own_form hb'.out.1 (by rw [hb'.len]; omega)
        obtain ⟨xv, g, hx, hg, hxo⟩ := hb'.out.at (k := q) (by rw [hb'.len]; exact hq)
        obtain ⟨yv, h, hy, hh, hyo⟩ := hb'.grp.at (k := q) hq
        obtain ⟨ax, cx, rfl⟩ := own_shape hxo
        obtain ⟨ay, cy, rfl⟩ := own_shape hyo
        have hgl := HG1.out g (List.mem_of_getElem? hg)
        have hhl := HG2.out h (List.mem_of_getElem? hh)
        have q0 : (0 : Int) ≤ (q : Int) := by omega
        have q6 : (q : Int) < (gs'.length : Int) := by have := hb'.len; omega
        have q7 : (q : Int) < (gv'.length : Int) := by omega
        have HB5 := Lib.hid hb'
        have HN5 := Lib.hid hn'
        have HFX0 := HFX
        obtain ⟨t1, t2, t3, t4, t5, t6, t7⟩ := gtypes hb' hx hy
        have t8 : p < w5.heap.size := heap_lt hn'.box
        have t10 := hn'.nob q _ hy
        have t9 : (Value.slice ax g.length cx).ownBlock ≠ some p := fun e => by
          obtain ⟨c1, e1⟩ := own_at hxo e
          rw [hn'.box] at e1; injection e1 with e1; injection e1 with _ e1 _; revert e1; decide
        have HSS : Hid (∀ V : World, V.heap[go]? = w5.heap[go]? → V.heap[gq]? = w5.heap[gq]? → V.heap[p]? = w5.heap[p]? → V.cell? ⟨go, q, none⟩ = some (Value.slice ax g.length cx) ∧ V.cell? ⟨gq, q, none⟩ = some (Value.slice ay h.length cy) ∧ ∀ o, V.cell? ⟨p, o, none⟩ = (bunC x (.slice xa x.blocks.length xc)).toArray[o]?) := Lib.hid (fun V h6 h7 h8 => by
          obtain ⟨⟨m6, _⟩, m7, _⟩ := gfacts HB5.out hx hy h6 h7
          exact ⟨m6, m7, fun o => cellB (h8.trans HN5.out.box) o⟩)
        have z5 : w.heap.size + 1 ≤ w5.heap.size := by have := heap_lt hb'.box; omega
        obtain ⟨j0, jin, jz0, jz1, jz2⟩ := info_parts infoInt
        obtain ⟨i0, hin, hz0, hz1, hz2⟩ := info_parts infoBun
        clear hb' hn'
        go_upto_region 18 with fail
        refine wp_region_tree (fun V => V.cell? ⟨go, q, none⟩ = some (Value.slice ax g.length cx) ∧ V.cell? ⟨gq, q, none⟩ = some (Value.slice ay h.length cy) ∧ ∀ o, V.cell? ⟨p, o, none⟩ = (bunC x (.slice xa x.blocks.length xc)).toArray[o]?) [0, 0, 0, 0, 0, 0, 0, 1, 0, 2, 2, 0, 0, 0, 1, 1, 2, 3, 0, 3, 0, 3] (.go 0 (.go 1 (.go 2 (.go 3 (.go 4 (.go 5 (.go 6 (.go 7 (.go 8 (.go 11 (.go 12 (.go 13 (.go 14 (.go 15 (.br2 9 16 (.br2 10 16 (.go 16 (.go 17 (.go 18 (.go 19 (.go 20 (.go 21 .fin)))))) (.go 10 (.go 17 (.go 18 (.go 19 (.go 20 (.go 21 .fin))))))) (.go 9 (.go 10 (.go 17 (.go 18 (.go 19 (.go 20 (.go 21 .fin)))))))))))))))))))))) (by kernel_rfl) (by kernel_rfl) ?_ ?_
        case refine_1 => exact HSS.out _ rfl rfl rfl
        simp only [bunC]
        (iterate 14 (refine tree_held rfl (by decide) (by rfl) (fun w1 hS => by (try (obtain ⟨_, _, _⟩ := hS rfl)); go_simp; rfl) ?_; (try simp only [Act.put, List.setIfInBounds_toArray, List.set_cons_zero, List.set_cons_succ])))
        refine ⟨?_, ?_⟩
        · refine tree_op rfl (by rfl) (fun K hK => ?_)
          go_simp
          have k6 : (w5.drew.alloc (.cells #[.int .i64 k] 3)).heap[go]? = w5.heap[go]? := (fun z h1 h2 h3 => Below.heap_alloc _ _ _ h1) go t1 t3 t5
          have k7 : (w5.drew.alloc (.cells #[.int .i64 k] 3)).heap[gq]? = w5.heap[gq]? := (fun z h1 h2 h3 => Below.heap_alloc _ _ _ h1) gq t2 t4 t6
          have k8 : (w5.drew.alloc (.cells #[.int .i64 k] 3)).heap[p]? = w5.heap[p]? := (fun z h1 h2 h3 => Below.heap_alloc _ _ _ h1) p t8 t9 t10
          have hSS := HSS.out _ k6 k7 k8
          refine hK _ _ hSS ?_
          clear hK K k6 k7 k8 hSS
          (try simp only [Act.put, List.setIfInBounds_toArray, List.set_cons_zero, List.set_cons_succ])
          refine ⟨?_, ?_⟩
          · as_aux_lemma =>
              refine tree_op rfl (by rfl) (fun K hK => ?_)
              refine wp_append_F _ _ _ _ rfl (w.heap.size + 1) 3 j0 _ 1 8 Tryz.underlying43 jin jz0 jz1 jz2 rfl (by omega) (Value.slice ax g.length cx) g.length (ints g) rfl (own_kept1 hxo (fun z hz => Below.heap_alloc _ _ _ (hxo.lt z hz).2)) ⟨w5.heap.size, 0, none⟩ 1 1 [.int .i64 k] rfl rfl (news_one heap_new) (by simp [Value.oneCell']) (by simp only [maxLen]; omega) (by omega) (by first | omega | (simp; omega)) (by omega) ?_
              intro x' wX hoX hgX hfX
              obtain ⟨ax', cx', rfl⟩ := own_shape hoX
              have KK1 : Below w5.heap.size w5 (w5.drew.alloc (.cells #[.int .i64 k] 3)) := balloc0 (bdrew (Below.refl _ _))
              have sX := hgX.size
              simp at sX
              have kX : ∀ z, z < w5.heap.size → (Value.slice ax g.length cx).ownBlock ≠ some z → (Value.slice ay h.length cy).ownBlock ≠ some z → wX.heap[z]? = w5.heap[z]? := fun z h1 h2 _ => (grown_keep hgX (by simp; omega) h2).trans (Below.heap_alloc _ _ _ h1)
              have hyX : wX.ownsRow (w.heap.size + 1) 31 12 (Value.slice ay h.length cy) h.length (flatU h) := own_kept1 hyo (fun z hz => (grown_keep hgX (by have := (hyo.lt z hz).2; simp; omega) (own_typ hyo hxo (by decide) hz)).trans (Below.heap_alloc _ _ _ (hyo.lt z hz).2))
              have HOXx := Lib.hid hoX
              have HGXx := Lib.hid hgX
              have HFXx := Lib.hid hfX
              have KXx := Lib.hid kX
              have HYXx := Lib.hid hyX
              have KK1x := Lib.hid KK1
              clear hoX hgX hfX kX hyX KK1
              have k6 : (wX).heap[go]? = w5.heap[go]? := KXx.out go t1 t3 t5
              have k7 : (wX).heap[gq]? = w5.heap[gq]? := KXx.out gq t2 t4 t6
              have k8 : (wX).heap[p]? = w5.heap[p]? := KXx.out p t8 t9 t10
              have hSS := HSS.out _ k6 k7 k8
              refine hK _ _ hSS ?_
              clear hK K k6 k7 k8 hSS
              (try simp only [Act.put, List.setIfInBounds_toArray, List.set_cons_zero, List.set_cons_succ])
              refine tree_keep rfl rfl (by rfl) (fun K hK => ?_)
              refine wp_litBun rfl x (.slice xa x.blocks.length xc) rfl ?_
              have k6 : (wX.alloc (.cells (bunC x (.slice xa x.blocks.length xc)).toArray 31)).heap[go]? = w5.heap[go]? := (fun z h1 h2 h3 => (Below.heap_alloc _ _ _ (by omega)).trans (KXx.out z h1 h2 h3)) go t1 t3 t5
              have k7 : (wX.alloc (.cells (bunC x (.slice xa x.blocks.length xc)).toArray 31)).heap[gq]? = w5.heap[gq]? := (fun z h1 h2 h3 => (Below.heap_alloc _ _ _ (by omega)).trans (KXx.out z h1 h2 h3)) gq t2 t4 t6
              have k8 : (wX.alloc (.cells (bunC x (.slice xa x.blocks.length xc)).toArray 31)).heap[p]? = w5.heap[p]? := (fun z h1 h2 h3 => (Below.heap_alloc _ _ _ (by omega)).trans (KXx.out z h1 h2 h3)) p t8 t9 t10
              have hSS := HSS.out _ k6 k7 k8
              refine hK _ _ hSS ?_
              clear hK K k6 k7 k8 hSS
              (try simp only [Act.put, List.setIfInBounds_toArray, List.set_cons_zero, List.set_cons_succ])
              have KK2 : Below wX.heap.size wX (wX.alloc (.cells (bunC x (.slice xa x.blocks.length xc)).toArray 31)) := balloc0 (Below.refl _ _)
              refine tree_late rfl rfl (by rfl) (fun K hK => ?_)
              refine wp_append_F _ _ _ _ rfl (w.heap.size + 1) 31 i0 _ 12 120 Tryz.underlying22 hin hz0 hz1 hz2 rfl (by omega) (Value.slice ay h.length cy) h.length (flatU h) rfl (own_kept1 HYXx.out (fun z hz => Below.heap_alloc _ _ _ (HYXx.out.lt z hz).2)) ⟨wX.heap.size, 0, none⟩ 1 1 (bunC x (.slice xa x.blocks.length xc)) rfl rfl (news_one heap_new) (bunC_one rfl) (by simp only [maxLen]; omega) (by omega) (by first | omega | (simp; omega)) (by omega) ?_
              intro y' wY hpY hgY hfY
              obtain ⟨ay', cy', rfl⟩ := own_shape hpY
              obtain ⟨hoZ, hkp, hfx, hfy, hBZ⟩ := two_apps HB5.out hx hy KK1x.out HGXx.out KK2 hgY HOXx.out HFXx.out hfY
              have k6 := hkp go t1 t3 t5
              have k7 := hkp gq t2 t4 t6
              obtain ⟨⟨m6, n6⟩, m7, n7⟩ := gfacts HB5.out hx hy k6 k7
              have HOZ := Lib.hid hoZ
              have HPY := Lib.hid hpY
              have HKP := Lib.hid hkp
              have HFX := Lib.hid hfx
              have HFY := Lib.hid hfy
              have HBZ := Lib.hid hBZ
              refine hK _ _ ?_
              clear hK K hoZ hpY hkp hfx hfy hBZ hgY hfY KK2
              (try simp only [Act.put, List.setIfInBounds_toArray, List.set_cons_zero, List.set_cons_succ])
              (refine tree_held rfl (by decide) (by rfl) (fun w1 hS => by (try (obtain ⟨_, _, _⟩ := hS rfl)); go_simp; rfl) ?_; (try simp only [Act.put, List.setIfInBounds_toArray, List.set_cons_zero, List.set_cons_succ]))
              refine tree_late rfl rfl (by rfl) (fun K hK => ?_)
              go_simp
              have e6 : ∀ (u : Value) o, (wY.setCell ⟨go, q, none⟩ u).cell? ⟨gq, o, none⟩ = wY.cell? ⟨gq, o, none⟩ := fun u o => World.cell?_of_block (heap_setCell_other wY ⟨go, q, none⟩ gq u (fun e => t7 e.symm))
              have e6f : ∀ (u : Value) o, (wY.setCell ⟨go, q, none⟩ u).frozen? ⟨gq, o, none⟩ = wY.frozen? ⟨gq, o, none⟩ := fun u o => World.frozen?_of_block (heap_setCell_other wY ⟨go, q, none⟩ gq u (fun e => t7 e.symm))
              refine hK _ _ ?_
              clear hK K
              (try simp only [Act.put, List.setIfInBounds_toArray, List.set_cons_zero, List.set_cons_succ])
              (refine tree_held rfl (by decide) (by rfl) (fun w1 hS => by (try (obtain ⟨_, _, _⟩ := hS rfl)); go_simp; rfl) ?_; (try simp only [Act.put, List.setIfInBounds_toArray, List.set_cons_zero, List.set_cons_succ]))
              refine tree_late rfl rfl (by rfl) (fun K hK => ?_)
              have r7 := (e6 (.slice ax' (g.length + 1) cx') q).trans m7
              have r7f := (e6f (.slice ax' (g.length + 1) cx') q).trans n7
              clear e6 e6f
              go_simp
              refine hK _ _ ?_
              clear hK K
              (try simp only [Act.put, List.setIfInBounds_toArray, List.set_cons_zero, List.set_cons_succ])
              refine tree_fin ?_
              go_wp2
              refine ⟨?_, by simp [intOf]; omega⟩
              exact gmid_end hlt HPK1.out hgk' HG1.out HG2.out hq HB5.out hx hy hg hh HUB.out HFX0.out HOZ.out HPY.out HKP.out HFX.out HFY.out HBZ.out
          · as_aux_lemma =>
              have e9 : (w5.alloc (.cells #[.int .i64 k] 3)).heap.size = w5.heap.size + 1 := by simp
              have n9 : (w5.alloc (.cells #[.int .i64 k] 3)).heap[w5.heap.size]? = some (.cells #[.int .i64 k] 3 (0, 0)) := heap_new
              have b9 : Below w5.heap.size w5 (w5.alloc (.cells #[.int .i64 k] 3)) := balloc0 (Below.refl _ _)
              generalize w5.alloc (.cells #[.int .i64 k] 3) = W9 at *
              have N9 := Lib.hid n9
              have B9 := Lib.hid b9
              have E9 := Lib.hid e9
              clear n9 b9 e9
              refine tree_op rfl (by rfl) (fun K hK => ?_)
              refine wp_litBun rfl x (.slice xa x.blocks.length xc) rfl ?_
              rw [show W9.drew.alloc (.cells (bunC x (.slice xa x.blocks.length xc)).toArray 31) = (W9.alloc (.cells (bunC x (.slice xa x.blocks.length xc)).toArray 31)).drew from rfl, show W9.drew.heap.size = W9.heap.size from rfl]
              have e9 := E9.out
              have k6 : (W9.alloc (.cells (bunC x (.slice xa x.blocks.length xc)).toArray 31)).heap[go]? = w5.heap[go]? := (fun z h1 h2 h3 => (Below.heap_alloc _ _ _ (by omega)).trans (B9.out.block z h1)) go t1 t3 t5
              have k7 : (W9.alloc (.cells (bunC x (.slice xa x.blocks.length xc)).toArray 31)).heap[gq]? = w5.heap[gq]? := (fun z h1 h2 h3 => (Below.heap_alloc _ _ _ (by omega)).trans (B9.out.block z h1)) gq t2 t4 t6
              have k8 : (W9.alloc (.cells (bunC x (.slice xa x.blocks.length xc)).toArray 31)).heap[p]? = w5.heap[p]? := (fun z h1 h2 h3 => (Below.heap_alloc _ _ _ (by omega)).trans (B9.out.block z h1)) p t8 t9 t10
              have hSS := HSS.out _ k6 k7 k8
              refine hK _ _ hSS ?_
              clear hK K k6 k7 k8 hSS
              (try simp only [Act.put, List.setIfInBounds_toArray, List.set_cons_zero, List.set_cons_succ])
              refine tree_keep rfl rfl (by rfl) (fun K hK => ?_)
              refine wp_append_F _ _ _ _ rfl (w.heap.size + 1) 3 j0 _ 1 8 Tryz.underlying43 jin jz0 jz1 jz2 rfl (by omega) (Value.slice ax g.length cx) g.length (ints g) rfl (own_kept1 hxo (fun z hz => (Below.heap_alloc _ _ _ (by have := (hxo.lt z hz).2; omega)).trans (B9.out.block z (hxo.lt z hz).2))) ⟨w5.heap.size, 0, none⟩ 1 1 [.int .i64 k] rfl rfl (news_one (t := 3) (by exact (Below.heap_alloc _ _ _ (by omega)).trans N9.out)) (by simp [Value.oneCell']) (by simp only [maxLen]; omega) (by omega) (by first | omega | (simp; omega)) (by omega) ?_
              intro x' wX hoX hgX hfX
              obtain ⟨ax', cx', rfl⟩ := own_shape hoX
              have KK1 : Below w5.heap.size w5 (W9.alloc (.cells (bunC x (.slice xa x.blocks.length xc)).toArray 31)).drew := bdrew (balloc0 B9.out)
              have sX := hgX.size
              simp at sX
              have kX : ∀ z, z < w5.heap.size → (Value.slice ax g.length cx).ownBlock ≠ some z → (Value.slice ay h.length cy).ownBlock ≠ some z → wX.heap[z]? = w5.heap[z]? := fun z h1 h2 _ => ((grown_keep hgX (by simp; omega) h2).trans (Below.heap_alloc _ _ _ (by omega))).trans (B9.out.block z h1)
              have hyX : wX.ownsRow (w.heap.size + 1) 31 12 (Value.slice ay h.length cy) h.length (flatU h) := own_kept1 hyo (fun z hz => ((grown_keep hgX (by have := (hyo.lt z hz).2; simp; omega) (own_typ hyo hxo (by decide) hz)).trans (Below.heap_alloc _ _ _ (by have := (hyo.lt z hz).2; omega))).trans (B9.out.block z (hyo.lt z hz).2))
              have hl9 : (W9.alloc (.cells (bunC x (.slice xa x.blocks.length xc)).toArray 31)).heap[W9.heap.size]? = some (.cells (bunC x (.slice xa x.blocks.length xc)).toArray 31 (0, 0)) := heap_new
              have litX : wX.heap[W9.heap.size]? = some (.cells (bunC x (.slice xa x.blocks.length xc)).toArray 31 (0, 0)) := (hgX.block _ (by show W9.heap.size < (W9.alloc (.cells (bunC x (.slice xa x.blocks.length xc)).toArray 31)).heap.size; rw [World.size_alloc]; omega) (fun e => by have := (hxo.lt _ e.symm).2; omega)).trans hl9
              clear hl9
              have zX : w5.heap.size + 2 ≤ wX.heap.size := by omega
              clear e9
              have KK2 : Below wX.heap.size wX wX := Below.refl _ _
              have HOXx := Lib.hid hoX
              have HGXx := Lib.hid hgX
              have HFXx := Lib.hid hfX
              have KXx := Lib.hid kX
              have HYXx := Lib.hid hyX
              have KK1x := Lib.hid KK1
              have LITX := Lib.hid litX
              clear hoX hgX hfX kX hyX KK1 litX
              have k6 : (wX).heap[go]? = w5.heap[go]? := KXx.out go t1 t3 t5
              have k7 : (wX).heap[gq]? = w5.heap[gq]? := KXx.out gq t2 t4 t6
              have k8 : (wX).heap[p]? = w5.heap[p]? := KXx.out p t8 t9 t10
              have hSS := HSS.out _ k6 k7 k8
              refine hK _ _ hSS ?_
              clear hK K k6 k7 k8 hSS
              (try simp only [Act.put, List.setIfInBounds_toArray, List.set_cons_zero, List.set_cons_succ])
              refine tree_late rfl rfl (by rfl) (fun K hK => ?_)
              refine wp_append_F _ _ _ _ rfl (w.heap.size + 1) 31 i0 _ 12 120 Tryz.underlying22 hin hz0 hz1 hz2 rfl (by omega) (Value.slice ay h.length cy) h.length (flatU h) rfl (HYXx.out) ⟨W9.heap.size, 0, none⟩ 1 1 (bunC x (.slice xa x.blocks.length xc)) rfl rfl (news_one (t := 31) (by exact LITX.out)) (bunC_one rfl) (by simp only [maxLen]; omega) (by omega) (by first | omega | (simp; omega)) (by omega) ?_
              intro y' wY hpY hgY hfY
              obtain ⟨ay', cy', rfl⟩ := own_shape hpY
              obtain ⟨hoZ, hkp, hfx, hfy, hBZ⟩ := two_apps HB5.out hx hy KK1x.out HGXx.out KK2 hgY HOXx.out HFXx.out hfY
              have k6 := hkp go t1 t3 t5
              have k7 := hkp gq t2 t4 t6
              obtain ⟨⟨m6, n6⟩, m7, n7⟩ := gfacts HB5.out hx hy k6 k7
              have HOZ := Lib.hid hoZ
              have HPY := Lib.hid hpY
              have HKP := Lib.hid hkp
              have HFX := Lib.hid hfx
              have HFY := Lib.hid hfy
              have HBZ := Lib.hid hBZ
              refine hK _ _ ?_
              clear hK K hoZ hpY hkp hfx hfy hBZ hgY hfY KK2
              (try simp only [Act.put, List.setIfInBounds_toArray, List.set_cons_zero, List.set_cons_succ])
              (refine tree_held rfl (by decide) (by rfl) (fun w1 hS => by (try (obtain ⟨_, _, _⟩ := hS rfl)); go_simp; rfl) ?_; (try simp only [Act.put, List.setIfInBounds_toArray, List.set_cons_zero, List.set_cons_succ]))
              refine tree_late rfl rfl (by rfl) (fun K hK => ?_)
              go_simp
              have e6 : ∀ (u : Value) o, (wY.setCell ⟨go, q, none⟩ u).cell? ⟨gq, o, none⟩ = wY.cell? ⟨gq, o, none⟩ := fun u o => World.cell?_of_block (heap_setCell_other wY ⟨go, q, none⟩ gq u (fun e => t7 e.symm))
              have e6f : ∀ (u : Value) o, (wY.setCell ⟨go, q, none⟩ u).frozen? ⟨gq, o, none⟩ = wY.frozen? ⟨gq, o, none⟩ := fun u o => World.frozen?_of_block (heap_setCell_other wY ⟨go, q, none⟩ gq u (fun e => t7 e.symm))
              refine hK _ _ ?_
              clear hK K
              (try simp only [Act.put, List.setIfInBounds_toArray, List.set_cons_zero, List.set_cons_succ])
              (refine tree_held rfl (by decide) (by rfl) (fun w1 hS => by (try (obtain ⟨_, _, _⟩ := hS rfl)); go_simp; rfl) ?_; (try simp only [Act.put, List.setIfInBounds_toArray, List.set_cons_zero, List.set_cons_succ]))
              refine tree_late rfl rfl (by rfl) (fun K hK => ?_)
              have r7 := (e6 (.slice ax' (g.length + 1) cx') q).trans m7
              have r7f := (e6f (.slice ax' (g.length + 1) cx') q).trans n7
              clear e6 e6f
              go_simp
              refine hK _ _ ?_
              clear hK K
              (try simp only [Act.put, List.setIfInBounds_toArray, List.set_cons_zero, List.set_cons_succ])
              refine tree_fin ?_
              go_wp2
              refine ⟨?_, by simp [intOf]; omega⟩
              exact gmid_end hlt HPK1.out hgk' HG1.out HG2.out hq HB5.out hx hy hg hh HUB.out HFX0.out HOZ.out HPY.out HKP.out HFX.out HFY.out HBZ.out
        · refine tree_op rfl (by rfl) (fun K hK => ?_)
          go_simp
          have k6 : (w5.drew.alloc (.cells (bunC x (.slice xa x.blocks.length xc)).toArray 31)).heap[go]? = w5.heap[go]? := (fun z h1 h2 h3 => Below.heap_alloc _ _ _ h1) go t1 t3 t5
          have k7 : (w5.drew.alloc (.cells (bunC x (.slice xa x.blocks.length xc)).toArray 31)).heap[gq]? = w5.heap[gq]? := (fun z h1 h2 h3 => Below.heap_alloc _ _ _ h1) gq t2 t4 t6
          have k8 : (w5.drew.alloc (.cells (bunC x (.slice xa x.blocks.length xc)).toArray 31)).heap[p]? = w5.heap[p]? := (fun z h1 h2 h3 => Below.heap_alloc _ _ _ h1) p t8 t9 t10
          have hSS := HSS.out _ k6 k7 k8
          refine hK _ _ hSS ?_
          clear hK K k6 k7 k8 hSS
          (try simp only [Act.put, List.setIfInBounds_toArray, List.set_cons_zero, List.set_cons_succ])
          as_aux_lemma =>
            refine tree_keep rfl rfl (by rfl) (fun K hK => ?_)
            go_simp
            have k6 : ((w5.drew.alloc (.cells (bunC x (.slice xa x.blocks.length xc)).toArray 31)).alloc (.cells #[.int .i64 k] 3)).heap[go]? = w5.heap[go]? := (fun z h1 h2 h3 => (Below.heap_alloc _ _ _ (by simp; omega)).trans (Below.heap_alloc _ _ _ h1)) go t1 t3 t5
            have k7 : ((w5.drew.alloc (.cells (bunC x (.slice xa x.blocks.length xc)).toArray 31)).alloc (.cells #[.int .i64 k] 3)).heap[gq]? = w5.heap[gq]? := (fun z h1 h2 h3 => (Below.heap_alloc _ _ _ (by simp; omega)).trans (Below.heap_alloc _ _ _ h1)) gq t2 t4 t6
            have k8 : ((w5.drew.alloc (.cells (bunC x (.slice xa x.blocks.length xc)).toArray 31)).alloc (.cells #[.int .i64 k] 3)).heap[p]? = w5.heap[p]? := (fun z h1 h2 h3 => (Below.heap_alloc _ _ _ (by simp; omega)).trans (Below.heap_alloc _ _ _ h1)) p t8 t9 t10
            have hSS := HSS.out _ k6 k7 k8
            refine hK _ _ hSS ?_
            clear hK K k6 k7 k8 hSS
            (try simp only [Act.put, List.setIfInBounds_toArray, List.set_cons_zero, List.set_cons_succ])
            refine tree_keep rfl rfl (by rfl) (fun K hK => ?_)
            refine wp_append_F _ _ _ _ rfl (w.heap.size + 1) 3 j0 _ 1 8 Tryz.underlying43 jin jz0 jz1 jz2 rfl (by omega) (Value.slice ax g.length cx) g.length (ints g) rfl (own_kept1 hxo (fun z hz => (Below.heap_alloc _ _ _ (by have := (hxo.lt z hz).2; simp; omega)).trans (Below.heap_alloc _ _ _ (hxo.lt z hz).2))) ⟨w5.heap.size + 1, 0, none⟩ 1 1 [.int .i64 k] rfl rfl (news_one (t := 3) (by exact heap_new' (by simp))) (by simp [Value.oneCell']) (by simp only [maxLen]; omega) (by omega) (by first | omega | (simp; omega)) (by omega) ?_
            intro x' wX hoX hgX hfX
            obtain ⟨ax', cx', rfl⟩ := own_shape hoX
            have KK1 : Below w5.heap.size w5 ((w5.drew.alloc (.cells (bunC x (.slice xa x.blocks.length xc)).toArray 31)).alloc (.cells #[.int .i64 k] 3)) := balloc0 (balloc0 (bdrew (Below.refl _ _)))
            have sX := hgX.size
            simp at sX
            have kX : ∀ z, z < w5.heap.size → (Value.slice ax g.length cx).ownBlock ≠ some z → (Value.slice ay h.length cy).ownBlock ≠ some z → wX.heap[z]? = w5.heap[z]? := fun z h1 h2 _ => ((grown_keep hgX (by simp; omega) h2).trans (Below.heap_alloc _ _ _ (by simp; omega))).trans (Below.heap_alloc _ _ _ h1)
            have hyX : wX.ownsRow (w.heap.size + 1) 31 12 (Value.slice ay h.length cy) h.length (flatU h) := own_kept1 hyo (fun z hz => ((grown_keep hgX (by have := (hyo.lt z hz).2; simp; omega) (own_typ hyo hxo (by decide) hz)).trans (Below.heap_alloc _ _ _ (by have := (hyo.lt z hz).2; simp; omega))).trans (Below.heap_alloc _ _ _ (hyo.lt z hz).2))
            have litX : wX.heap[w5.heap.size]? = some (.cells (bunC x (.slice xa x.blocks.length xc)).toArray 31 (0, 0)) := (grown_keep hgX (by simp; omega) (fun e => by have := (hxo.lt _ e).2; omega)).trans (by exact (Below.heap_alloc _ _ _ (by simp)).trans heap_new)
            have KK2 : Below wX.heap.size wX wX := Below.refl _ _
            have HOXx := Lib.hid hoX
            have HGXx := Lib.hid hgX
            have HFXx := Lib.hid hfX
            have KXx := Lib.hid kX
            have HYXx := Lib.hid hyX
            have KK1x := Lib.hid KK1
            have LITX := Lib.hid litX
            clear hoX hgX hfX kX hyX KK1 litX
            have k6 : (wX).heap[go]? = w5.heap[go]? := KXx.out go t1 t3 t5
            have k7 : (wX).heap[gq]? = w5.heap[gq]? := KXx.out gq t2 t4 t6
            have k8 : (wX).heap[p]? = w5.heap[p]? := KXx.out p t8 t9 t10
            have hSS := HSS.out _ k6 k7 k8
            refine hK _ _ hSS ?_
            clear hK K k6 k7 k8 hSS
            (try simp only [Act.put, List.setIfInBounds_toArray, List.set_cons_zero, List.set_cons_succ])
            refine tree_late rfl rfl (by rfl) (fun K hK => ?_)
            refine wp_append_F _ _ _ _ rfl (w.heap.size + 1) 31 i0 _ 12 120 Tryz.underlying22 hin hz0 hz1 hz2 rfl (by omega) (Value.slice ay h.length cy) h.length (flatU h) rfl (HYXx.out) ⟨w5.heap.size, 0, none⟩ 1 1 (bunC x (.slice xa x.blocks.length xc)) rfl rfl (news_one (t := 31) (by exact LITX.out)) (bunC_one rfl) (by simp only [maxLen]; omega) (by omega) (by first | omega | (simp; omega)) (by omega) ?_
            intro y' wY hpY hgY hfY
            obtain ⟨ay', cy', rfl⟩ := own_shape hpY
            obtain ⟨hoZ, hkp, hfx, hfy, hBZ⟩ := two_apps HB5.out hx hy KK1x.out HGXx.out KK2 hgY HOXx.out HFXx.out hfY
            have k6 := hkp go t1 t3 t5
            have k7 := hkp gq t2 t4 t6
            obtain ⟨⟨m6, n6⟩, m7, n7⟩ := gfacts HB5.out hx hy k6 k7
            have HOZ := Lib.hid hoZ
            have HPY := Lib.hid hpY
            have HKP := Lib.hid hkp
            have HFX := Lib.hid hfx
            have HFY := Lib.hid hfy
            have HBZ := Lib.hid hBZ
            refine hK _ _ ?_
            clear hK K hoZ hpY hkp hfx hfy hBZ hgY hfY KK2
            (try simp only [Act.put, List.setIfInBounds_toArray, List.set_cons_zero, List.set_cons_succ])
            (refine tree_held rfl (by decide) (by rfl) (fun w1 hS => by (try (obtain ⟨_, _, _⟩ := hS rfl)); go_simp; rfl) ?_; (try simp only [Act.put, List.setIfInBounds_toArray, List.set_cons_zero, List.set_cons_succ]))
            refine tree_late rfl rfl (by rfl) (fun K hK => ?_)
            go_simp
            have e6 : ∀ (u : Value) o, (wY.setCell ⟨go, q, none⟩ u).cell? ⟨gq, o, none⟩ = wY.cell? ⟨gq, o, none⟩ := fun u o => World.cell?_of_block (heap_setCell_other wY ⟨go, q, none⟩ gq u (fun e => t7 e.symm))
            have e6f : ∀ (u : Value) o, (wY.setCell ⟨go, q, none⟩ u).frozen? ⟨gq, o, none⟩ = wY.frozen? ⟨gq, o, none⟩ := fun u o => World.frozen?_of_block (heap_setCell_other wY ⟨go, q, none⟩ gq u (fun e => t7 e.symm))
            refine hK _ _ ?_
            clear hK K
            (try simp only [Act.put, List.setIfInBounds_toArray, List.set_cons_zero, List.set_cons_succ])
            (refine tree_held rfl (by decide) (by rfl) (fun w1 hS => by (try (obtain ⟨_, _, _⟩ := hS rfl)); go_simp; rfl) ?_; (try simp only [Act.put, List.setIfInBounds_toArray, List.set_cons_zero, List.set_cons_succ]))
            refine tree_late rfl rfl (by rfl) (fun K hK => ?_)
            have r7 := (e6 (.slice ax' (g.length + 1) cx') q).trans m7
            have r7f := (e6f (.slice ax' (g.length + 1) cx') q).trans n7
            clear e6 e6f
            go_simp
            refine hK _ _ ?_
            clear hK K
            (try simp only [Act.put, List.setIfInBounds_toArray, List.set_cons_zero, List.set_cons_succ])
            refine tree_fin ?_
            go_wp2
            refine ⟨?_, by simp [intOf]; omega⟩
            exact gmid_end hlt HPK1.out hgk' HG1.out HG2.out hq HB5.out hx hy hg hh HUB.out HFX0.out HOZ.out HPY.out HKP.out HFX.out HFY.out HBZ.out
    · obtain rfl : k = l.length := by omega
      have HO : Hid (OwnG wr w.heap.size (.slice a6 gs.length c6) (grS l most).1) := Lib.hid (by
        have h := HPK.out
        rw [List.drop_length] at h
        rw [HP0.out, ← h]
        exact ⟨vals, HBS.out.out.le (by omega)⟩)
      have HP1 : Hid ((grS l most).2 = 0) := Lib.hid (by rw [HP0.out])
      go_wp2
      go_ret2
      unfold GroupsPost
      rw [HP1.out]
      exact ⟨_, rfl, hB, HO.out⟩
end Go.Proofs.YtpkklmkeflddkaaGreat
